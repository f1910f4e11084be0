/- A block more, a volume more: the text is longer: plain. -/
import Derived.Test.YtpcmihgfcaelfaaIR
import Derived.Test.YtpcmihgfcaelfaaIG
namespace Go.Proofs.Ytpcmihgfcaelfaa
open Go.RowKit

def RiseV (l : List VoD) : Prop := l.Pairwise fun a b => a.id < b.id
theorem riseV_of : ∀ {l : List VoD}, Rising l → RiseV l
  | [], _ => List.Pairwise.nil
  | [a], _ => List.pairwise_singleton _ _
  | a :: b :: l, h => by
    have ih := riseV_of (l := b :: l) (fun i x y hx hy => h (i + 1) x y (by rw [List.getElem?_cons_succ]; exact hx) (by rw [List.getElem?_cons_succ]; exact hy))
    have h0 := h 0 a b rfl rfl
    unfold RiseV at *
    rw [List.pairwise_cons]
    refine ⟨fun x hx => ?_, ih⟩
    rw [List.mem_cons] at hx
    rcases hx with rfl | hx
    · exact h0
    · have := (List.pairwise_cons.1 ih).1 x hx; omega
theorem riseV_to {l : List VoD} (h : RiseV l) : Rising l := fun i x y hx hy => by
  obtain ⟨hi, rfl⟩ := List.getElem?_eq_some_iff.1 hx
  obtain ⟨hj, rfl⟩ := List.getElem?_eq_some_iff.1 hy
  exact List.pairwise_iff_getElem.1 h i (i + 1) hi hj (by omega)
theorem putV_late : ∀ (l : List VoD) (v : VoD), (∀ x ∈ l, x.id ≠ v.id) → putV l v true = l
  | [], v, _ => by simp [putV]
  | x :: l, v, h => by
    have h1 := h x (by simp)
    rw [putV_cons, if_neg (by simp), if_neg h1, Bool.true_or, putV_late l v (fun y hy => h y (by simp [hy]))]; simp
theorem putV_split : ∀ (l : List VoD) (v : VoD), RiseV l → ∃ A M B, l = A ++ M ++ B ∧ putV l v false = A ++ [v] ++ B ∧ (M = [] ∨ ∃ d, M = [d] ∧ d.id = v.id) ∧ (∀ x ∈ A, x.id < v.id) ∧ ∀ x ∈ B, v.id < x.id
  | [], v, _ => ⟨[], [], [], rfl, by simp [putV], .inl rfl, fun x hx => by simp at hx, fun x hx => by simp at hx⟩
  | x :: l, v, h => by
    have h1 : ∀ y ∈ l, x.id < y.id := (List.pairwise_cons.1 h).1
    by_cases hlt : x.id < v.id
    · obtain ⟨A, M, B, e1, e2, e3, e4, e5⟩ := putV_split l v (List.pairwise_cons.1 h).2
      refine ⟨x :: A, M, B, by rw [e1]; rfl, ?_, e3, fun y hy => ?_, e5⟩
      · rw [putV_cons, if_neg (fun h => by omega), if_neg (by omega), decide_eq_false (by omega), Bool.false_or, e2]; simp
      · rw [List.mem_cons] at hy
        rcases hy with rfl | hy
        · exact hlt
        · exact e4 y hy
    · by_cases he : x.id = v.id
      · refine ⟨[], [x], l, rfl, ?_, .inr ⟨x, rfl, he⟩, fun y hy => by simp at hy, fun y hy => by have := h1 y hy; omega⟩
        rw [putV_cons, if_pos ⟨rfl, by omega⟩, if_pos he, decide_eq_true (by omega), Bool.false_or, putV_late l v (fun y hy => by have := h1 y hy; omega)]; simp
      · refine ⟨[], [], x :: l, rfl, ?_, .inl rfl, fun y hy => by simp at hy, fun y hy => ?_⟩
        · rw [putV_cons, if_pos ⟨rfl, by omega⟩, if_neg he, decide_eq_true (by omega), Bool.false_or, putV_late l v (fun y hy => by have := h1 y hy; omega)]; simp
        · rw [List.mem_cons] at hy
          rcases hy with rfl | hy
          · omega
          · have := h1 y hy; omega
theorem volsS_cat : ∀ a b : List VoD, volsS (a ++ b) = volsS a ++ volsS b
  | [], b => by simp [volsS]
  | x :: a, b => by simp only [List.cons_append, volsS, volsS_cat a b, List.append_assoc]
theorem numS_small {n : Nat} (h : n < 16384) : (numS (n : Int)).length = if n < 128 then 1 else 2 := by
  unfold numS
  rw [if_pos (by omega), Int.toNat_natCast]
  by_cases h1 : n < 128
  · rw [if_pos h1, numL_small h1]; rfl
  · rw [if_neg h1, numL_big h1, List.length_cons, numL_small (by omega)]; rfl
theorem numS_mono {a b : Nat} (h : a ≤ b) (hb : b < 16384) : (numS (a : Int)).length ≤ (numS (b : Int)).length := by
  rw [numS_small (by omega), numS_small hb]
  split <;> split <;> omega
theorem numS_one {x : Int} (h : numOk x = true) : 1 ≤ (numS x).length := by
  rcases Nat.eq_zero_or_pos (numS x).length with h0 | h0
  · have := numS_ok.1 (List.eq_nil_of_length_eq_zero h0)
    rw [h] at this; exact absurd this (by simp)
  · exact h0
def sumN (l : List Int) : Nat := ((l.map numS).flatten).length
theorem sumN_cons (x : Int) (l : List Int) : sumN (x :: l) = (numS x).length + sumN l := by unfold sumN; simp
theorem intsS_len {l : List Int} (h : ∀ x ∈ l, numOk x = true) : (intsS l).length = (numS (l.length : Nat)).length + sumN l := by
  unfold intsS intsG sumN
  rw [if_pos (by rw [List.all_eq_true]; exact h), List.length_append]
def sumQ : List PairD → Nat
  | [] => 0
  | p :: l => (numS p.1).length + (numS p.2).length + sumQ l
theorem sumN_flat : ∀ l : List PairD, sumN (flatP l) = sumQ l
  | [] => rfl
  | p :: l => by simp only [flatP, sumN_cons, sumN_flat l, sumQ]; omega
theorem putP_more : ∀ (l : List PairD) (k v : Int), RiseL l → (∀ p ∈ l, p.1 ≠ k) → sumQ (putP l k v false) = sumQ l + ((numS k).length + (numS v).length) ∧ (putP l k v false).length = l.length + 1
  | [], k, v, _, _ => by simp [putP, sumQ]
  | x :: l, k, v, h, hk => by
    have h1 : ∀ p ∈ l, x.1 < p.1 := (List.pairwise_cons.1 h).1
    have hx := hk x (by simp)
    by_cases hle : k ≤ x.1
    · have e : putP (x :: l) k v false = (k, v) :: x :: l := by
        rw [putP_cons, if_pos ⟨rfl, hle⟩, if_neg hx, decide_eq_true hle, Bool.false_or, putP_late, filter_late (fun p hp => by have := h1 p hp; omega)]; rfl
      rw [e]
      refine ⟨?_, by simp only [List.length_cons]⟩
      show (numS k).length + (numS v).length + ((numS x.1).length + (numS x.2).length + sumQ l) = (numS x.1).length + (numS x.2).length + sumQ l + ((numS k).length + (numS v).length)
      omega
    · have ih := putP_more l k v (List.pairwise_cons.1 h).2 (fun p hp => hk p (by simp [hp]))
      have e : putP (x :: l) k v false = x :: putP l k v false := by
        rw [putP_cons, if_neg (fun h => hle h.2), if_neg hx, decide_eq_false hle, Bool.false_or]; rfl
      rw [e]
      simp only [sumQ, List.length_cons]; omega
theorem getP_no {l : List PairD} {k : Int} (h : (getP l k).2 = false) : ∀ p ∈ l, p.1 ≠ k := fun p hp e => by
  unfold getP at h
  cases hf : l.find? (fun x => x.1 == k) with
  | none =>
    have := List.find?_eq_none.1 hf p hp
    simp [e] at this
  | some y => rw [hf] at h; simp at h
theorem riseL_of {l : List PairD} (h : riseB l = true) : RiseL l := by
  have h1 := (riseB_iff l).1 h
  clear h
  induction l with
  | nil => exact List.Pairwise.nil
  | cons a l ih =>
    have h2 := ih (fun i x y hx hy => h1 (i + 1) x y (by rw [List.getElem?_cons_succ]; exact hx) (by rw [List.getElem?_cons_succ]; exact hy))
    unfold RiseL at *
    rw [List.pairwise_cons]
    refine ⟨fun p hp => ?_, h2⟩
    cases l with
    | nil => simp at hp
    | cons b l =>
      have h0 := h1 0 a b rfl rfl
      rw [List.mem_cons] at hp
      rcases hp with rfl | hp
      · exact h0
      · have := (List.pairwise_cons.1 h2).1 p hp; omega
theorem riseB_of {l : List PairD} (h : RiseL l) : riseB l = true := (riseB_iff l).2 fun i x y hx hy => by
  obtain ⟨hi, rfl⟩ := List.getElem?_eq_some_iff.1 hx
  obtain ⟨hj, rfl⟩ := List.getElem?_eq_some_iff.1 hy
  exact List.pairwise_iff_getElem.1 h i (i + 1) hi hj (by omega)
/-- volumes with another one are volumes that may be -/
theorem put_may {l : List VoD} {d : VoD} (hm : mayVB l = true) (hd : rightN d = true) (h64 : l.length ≤ 60) : mayVB (putV l d false) = true ∧ withV l d = putV l d false := by
  obtain ⟨h1, h2, h3⟩ := mayVB_iff.1 hm
  obtain ⟨A, M, B, e1, e2, e3, e4, e5⟩ := putV_split l d (riseV_of h2)
  have hl := putV_len l d false
  simp only [Bool.false_eq_true, if_false] at hl
  refine ⟨mayVB_iff.2 ⟨fun x hx => ?_, riseV_to ?_, by omega⟩, by unfold withV; rw [if_pos ⟨hm, hd⟩, if_neg (by omega)]⟩
  · rw [e2] at hx
    simp only [List.mem_append, List.mem_cons, List.not_mem_nil, or_false] at hx
    rcases hx with (hx | rfl) | hx
    · exact h1 x (by rw [e1]; simp [hx])
    · exact hd
    · exact h1 x (by rw [e1]; simp [hx])
  · have hr := riseV_of h2
    rw [e1] at hr
    rw [e2]
    unfold RiseV at *
    rw [List.pairwise_append, List.pairwise_append] at hr ⊢
    refine ⟨⟨hr.1.1, List.pairwise_singleton _ _, fun a ha b hb => ?_⟩, hr.2.1, fun a ha b hb => ?_⟩
    · simp only [List.mem_cons, List.not_mem_nil, or_false] at hb; subst hb; exact e4 a ha
    · simp only [List.mem_append, List.mem_cons, List.not_mem_nil, or_false] at ha
      rcases ha with ha | rfl
      · exact hr.2.2 a (by simp [ha]) b hb
      · exact e5 b hb
theorem textV_len {l : List VoD} (h : mayVB l = true) : (textV l).length = (numS (l.length : Nat)).length + (volsS l).length := by
  unfold textV; rw [if_pos h, List.length_append]
def newV : VoD := ⟨1000, 0, zeroN⟩
theorem new_right : rightN newV = true := by decide
theorem find_no {l : List VoD} {id : Int} (h : (findD l id).2 = false) : ∀ d ∈ l, d.id ≠ id := fun d hd e => by
  unfold findD at h
  cases hf : l.find? (fun d => d.id == id) with
  | none =>
    have := List.find?_eq_none.1 hf d hd
    simp [e] at this
  | some y => rw [hf] at h; simp at h
theorem find_yes {l : List VoD} {id : Int} (h : (findD l id).2 = true) : (findD l id).1 ∈ l := by
  unfold findD at h ⊢
  cases hf : l.find? (fun d => d.id == id) with
  | none => rw [hf] at h; simp at h
  | some y => exact List.mem_of_find?_eq_some hf
theorem longer_more {l : List VoD} (hm : mayVB l = true) (h60 : l.length ≤ 60) (hn : (findD l 1000).2 = false) : (textV l).length < (textV (withV l newV)).length := by
  obtain ⟨p1, p2⟩ := put_may hm new_right h60
  obtain ⟨A, M, B, e1, e2, e3, _, _⟩ := putV_split l newV (riseV_of (mayVB_iff.1 hm).2.1)
  have hM : M = [] := by
    rcases e3 with h | ⟨d, h, hd⟩
    · exact h
    · exact absurd hd (find_no hn d (by rw [e1, h]; simp))
  subst hM
  rw [p2, textV_len hm, textV_len p1, e2]
  rw [e1]
  simp only [List.append_nil, volsS_cat, List.length_append, volsS]
  have h1 : 1 ≤ (intsS (numsV newV)).length := by
    rw [intsS_len (fun x hx => by
      have : x = 1000 ∨ x = 0 := by simpa [numsV, newV, zeroN, pairsN, pairsL, flatP] using hx
      rcases this with rfl | rfl <;> decide)]
    have := numS_one (x := ((numsV newV).length : Nat)) (by decide)
    omega
  have hl : A.length + B.length ≤ 60 := by rw [e1] at h60; simpa using h60
  have h2 := numS_mono (a := A.length + B.length) (b := A.length + [newV].length + B.length) (by simp only [List.length_cons, List.length_nil]; omega) (by simp only [List.length_cons, List.length_nil]; omega)
  push_cast at h2 ⊢
  omega
/-- a block more -/
theorem longer_put {l : List VoD} {d d2 : VoD} {at_ : Int} (hm : mayVB l = true) (h60 : l.length ≤ 60) (hd : d ∈ l) (hs : (pairsN d.map).length ≤ 240) (h0 : 0 ≤ at_) (h1 : at_ < d.size) (hn : (getP (pairsN d.map) at_).2 = false) (e1 : d2.id = d.id) (e2 : d2.size = d.size) (hg : Grown (putP (pairsN d.map) at_ 3 false) d2.map) : (textV l).length < (textV (withV l d2)).length ∧ SmallTree d2.map := by
  have hr := (mayVB_iff.1 hm).1 d hd
  have hr0 := hr
  unfold rightN at hr
  simp only [Bool.and_eq_true, decide_eq_true_eq, List.all_eq_true] at hr
  have hrm := hr.1.2
  unfold mayN at hrm
  simp only [Bool.and_eq_true] at hrm
  have hrise := riseL_of hrm.2
  obtain ⟨m1, m2⟩ := putP_more (pairsN d.map) at_ 3 hrise (getP_no hn)
  have hall : (putP (pairsN d.map) at_ 3 false).all (pairOk d.size) = true := by
    rw [List.all_eq_true]
    intro p hp
    rcases putP_mem _ _ _ _ _ hp with hp | rfl
    · exact hr.2 p hp
    · unfold pairOk
      simp only [Bool.and_eq_true, decide_eq_true_eq]
      exact ⟨by decide, h0, h1⟩
  have hr2 : rightN d2 = true := by
    unfold rightN
    rw [e1, e2, hg.may (riseB_of (putP_rise _ _ _ hrise)), hg.1, hall, decide_eq_true hr.1.1]; rfl
  have hst : SmallTree d2.map := by unfold SmallTree; rw [hg.1, m2]; omega
  refine ⟨?_, hst⟩
  obtain ⟨p1, p2⟩ := put_may hm hr2 h60
  have hrv := riseV_of (mayVB_iff.1 hm).2.1
  obtain ⟨A, M, B, f1, f2, f3, f4, f5⟩ := putV_split l d2 hrv
  have hM : M = [d] := by
    have hin : d ∈ A ++ M ++ B := by rw [← f1]; exact hd
    simp only [List.mem_append] at hin
    rcases hin with (hin | hin) | hin
    · have := f4 d hin; omega
    · rcases f3 with h | ⟨y, h, hy⟩
      · rw [h] at hin; simp at hin
      · rw [h] at hin ⊢
        simp only [List.mem_cons, List.not_mem_nil, or_false] at hin
        rw [hin]
    · have := f5 d hin; omega
  subst hM
  rw [p2, textV_len hm, textV_len p1, f2]
  rw [f1]
  simp only [volsS_cat, List.length_append, volsS, List.length_cons, List.length_nil]
  have ok1 := (right_ok hr0 (by unfold SmallTree; omega)).1
  have ok2 := (right_ok hr2 hst).1
  rw [numsR_of] at ok1 ok2
  have g1 := intsS_len ok1
  have g2 := intsS_len ok2
  rw [numsV_len] at g1 g2
  rw [hg.1, m2] at g2
  have q1 : sumN (numsV d) = (numS d.id).length + ((numS d.size).length + sumQ (pairsN d.map)) := by unfold numsV; rw [sumN_cons, sumN_cons, sumN_flat]
  have q2 : sumN (numsV d2) = (numS d.id).length + ((numS d.size).length + sumQ (putP (pairsN d.map) at_ 3 false)) := by unfold numsV; rw [sumN_cons, sumN_cons, sumN_flat, e1, e2, hg.1]
  have h3 := numS_one (x := 3) (by decide)
  have hmono := numS_mono (a := 2 + 2 * (pairsN d.map).length) (b := 2 + 2 * ((pairsN d.map).length + 1)) (by omega) (by omega)
  omega
end Go.Proofs.Ytpcmihgfcaelfaa
