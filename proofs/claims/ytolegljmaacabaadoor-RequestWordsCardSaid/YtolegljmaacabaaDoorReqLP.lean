/- Plain laws of what is asked: blanks more change no words; the words joined by one blank; what a parse gives. No program in sight. -/
import Derived.Test.YtolegljmaacabaaDoorReqHP
namespace Go.Proofs.YtolegljmaacabaaDoor
open Go.RowKit

theorem splitL_app : ∀ (l r : List UInt8), splitL (l ++ 32 :: r) = splitL l ++ splitL r
  | [], r => by rw [List.nil_append, show splitL [] = [[]] from rfl, splitL, if_pos rfl]; rfl
  | b :: l, r => by
    rw [List.cons_append, splitL]
    by_cases hb : b = 32
    · rw [if_pos hb, splitL_app l r, splitL, if_pos hb]; rfl
    · rw [if_neg hb, splitL_app l r, splitL, if_neg hb]
      cases h : splitL l with
      | nil => exact absurd h (splitL_ne l)
      | cons p ps => rfl
theorem wordsL_app (l r : List UInt8) : wordsL (l ++ 32 :: r) = wordsL l ++ wordsL r := by
  unfold wordsL; rw [splitL_app, List.filter_append]
theorem wordsL_nil : wordsL [] = [] := rfl
theorem words_around (l : List UInt8) : wordsL (32 :: l ++ [32, 32]) = wordsL l := by
  have h1 : wordsL (32 :: (l ++ [32, 32])) = wordsL (l ++ [32, 32]) := by
    rw [show 32 :: (l ++ [32, 32]) = [] ++ 32 :: (l ++ [32, 32]) from rfl, wordsL_app]; rfl
  rw [List.cons_append, h1, wordsL_app l [32]]
  rw [show wordsL [32] = [] from rfl, List.append_nil]
theorem words_amid (a b : List UInt8) : wordsL (a ++ [32, 32, 32] ++ 32 :: b) = wordsL (a ++ 32 :: b) := by
  rw [wordsL_app, wordsL_app a b, wordsL_app a [32, 32]]
  rw [show wordsL [32, 32] = [] from rfl, List.append_nil]

theorem splitL_free : ∀ (l : List UInt8), ∀ p ∈ splitL l, ∀ b ∈ p, b ≠ 32
  | [], p, hp, b, hb => by simp [splitL] at hp; subst hp; simp at hb
  | c :: l, p, hp, b, hb => by
    unfold splitL at hp
    split at hp
    · rcases List.mem_cons.1 hp with rfl | hp
      · simp at hb
      · exact splitL_free l p hp b hb
    · rename_i hc
      have ih := splitL_free l
      split at hp
      · simp at hp; subst hp; simp at hb; subst hb; exact hc
      · rename_i q qs h
        rw [h] at ih
        rcases List.mem_cons.1 hp with rfl | hp
        · rcases List.mem_cons.1 hb with rfl | hb
          · exact hc
          · exact ih q (by simp) b hb
        · exact ih p (by simp [hp]) b hb
theorem wordsL_free (l : List UInt8) (p : List UInt8) (h : p ∈ wordsL l) : p ≠ [] ∧ ∀ b ∈ p, b ≠ 32 := by
  have h2 := List.mem_filter.1 h
  exact ⟨by simpa using h2.2, splitL_free l p h2.1⟩

/-- words, one blank between them -/
def joinW : List (List UInt8) → List UInt8
  | [] => []
  | p :: ps => if ps = [] then p else p ++ 32 :: joinW ps
theorem joinW_snoc : ∀ (ws : List (List UInt8)) (p : List UInt8), joinW (ws ++ [p]) = if ws = [] then p else joinW ws ++ 32 :: p
  | [], p => by simp [joinW]
  | w :: ws, p => by
    have e1 : joinW (w :: (ws ++ [p])) = w ++ 32 :: joinW (ws ++ [p]) := by rw [joinW, if_neg (by simp)]
    rw [List.cons_append, e1, joinW_snoc ws p, if_neg (List.cons_ne_nil _ _)]
    by_cases h : ws = []
    · subst h; rw [if_pos rfl]; show w ++ 32 :: p = (if [] = [] then w else _) ++ 32 :: p; rw [if_pos rfl]
    · rw [if_neg h, joinW, if_neg h]; simp
theorem words_join : ∀ (ws : List (List UInt8)), (∀ p ∈ ws, p ≠ [] ∧ ∀ b ∈ p, b ≠ 32) → wordsL (joinW ws) = ws
  | [], _ => rfl
  | p :: ps, h => by
    have hp := h p (by simp)
    have h1 : wordsL p = [p] := by unfold wordsL; rw [splitL_plain p hp.2, List.filter_cons_of_pos (by simp [hp.1])]; rfl
    rw [joinW]
    by_cases he : ps = []
    · rw [if_pos he, h1, he]
    · rw [if_neg he, wordsL_app, h1, words_join ps (fun q hq => h q (by simp [hq]))]; rfl
def sumW (ws : List (List UInt8)) : Nat := (ws.map fun p => p.length + 1).sum
theorem joinW_length : ∀ (ws : List (List UInt8)), (joinW ws).length = sumW ws - 1
  | [] => rfl
  | p :: ps => by
    rw [joinW]
    by_cases he : ps = []
    · subst he; simp [sumW]
    · rw [if_neg he, List.length_append, List.length_cons, joinW_length ps]
      have : 1 ≤ sumW ps := by
        cases ps with
        | nil => exact absurd rfl he
        | cons q qs => simp [sumW]; omega
      simp only [sumW, List.map_cons, List.sum_cons] at this ⊢; omega
theorem sumW_split : ∀ (l : List UInt8), sumW (splitL l) = l.length + 1
  | [] => rfl
  | c :: l => by
    have ih := sumW_split l
    unfold splitL
    split
    · simp only [sumW, List.map_cons, List.sum_cons, List.length_nil, List.length_cons] at ih ⊢; omega
    · split
      · rename_i h; exact absurd h (splitL_ne l)
      · rename_i q qs h; rw [h] at ih
        simp only [sumW, List.map_cons, List.sum_cons, List.length_cons] at ih ⊢; omega
theorem sumW_filter (f : List UInt8 → Bool) : ∀ ws, sumW (ws.filter f) ≤ sumW ws
  | [] => Nat.le_refl _
  | p :: ps => by
    have ih := sumW_filter f ps
    rw [List.filter_cons]
    split
    · simp only [sumW, List.map_cons, List.sum_cons] at ih ⊢; omega
    · simp only [sumW, List.map_cons, List.sum_cons] at ih ⊢; omega
theorem join_le (l : List UInt8) : (joinW (wordsL l)).length ≤ l.length := by
  rw [joinW_length]
  have h1 := sumW_filter (fun p => decide (p ≠ [])) (splitL l)
  have h2 := sumW_split l
  show sumW (wordsL l) - 1 ≤ _
  unfold wordsL; omega
theorem join_take_le (l : List UInt8) (k : Nat) : (joinW ((wordsL l).take k)).length ≤ l.length := by
  have h := join_le l
  rw [joinW_length] at h ⊢
  have : sumW ((wordsL l).take k) ≤ sumW (wordsL l) := by
    conv => rhs; rw [← List.take_append_drop k (wordsL l)]
    unfold sumW; rw [List.map_append, List.sum_append]; exact Nat.le_add_right _ _
  omega

/-- what a word may set -/
structure OpOk (o : OpD) (fill : Bool) : Prop where
  vol : 0 ≤ o.vol
  dest : 0 ≤ o.dest
  block : 0 ≤ o.block
  n : 0 ≤ o.n
  text : o.text.size = if fill then 256 else 0
theorem fillL_one (b : UInt8) : fillL [b] = if 97 ≤ b.toNat ∧ b.toNat ≤ 122 then some (rep256 b) else none := rfl
theorem fillL_more (b c : UInt8) (r : List UInt8) : fillL (b :: c :: r) = if b = 114 ∧ numB (c :: r) = true then some (genX (valL (c :: r)) 256) else none := rfl
theorem fillL_len {l t : List UInt8} (h : fillL l = some t) : t.length = 256 := by
  match l, h with
  | [b], h =>
    rw [fillL_one] at h
    split at h
    · injection h with h; rw [← h]; unfold rep256; rw [List.length_replicate]
    · cases h
  | b :: c :: r, h =>
    rw [fillL_more] at h
    by_cases hc : b = 114 ∧ numB (c :: r) = true
    · rw [if_pos hc] at h; rw [← Option.some.inj h]; exact genX_length _ _
    · rw [if_neg hc] at h; cases h
theorem foldK_ok : ∀ (ks : List WKind) (ws : List (List UInt8)) (o o' : OpD) (b : Bool), OpOk o b → foldK ks ws o = some o' → o'.act = o.act ∧ OpOk o' (b || ks.any fun k => match k with | .fill => true | _ => false)
  | [], _, o, o', b, h, he => by
    rw [foldK] at he; cases he; exact ⟨rfl, by simpa using h⟩
  | k :: ks, [], o, o', b, h, he => by rw [foldK] at he; cases he
  | k :: ks, w :: ws, o, o', b, h, he => by
    rw [foldK] at he
    split at he
    · rename_i ha
      have key : (applyK k o w).1.act = o.act ∧ OpOk (applyK k o w).1 (b || match k with | .fill => true | _ => false) := by
        cases k with
        | fill =>
          refine ⟨rfl, h.vol, h.dest, h.block, h.n, ?_⟩
          have hs : (fillL w).isSome = true := ha
          obtain ⟨t, ht⟩ := Option.isSome_iff_exists.1 hs
          simp only [applyK, ht, Option.getD_some, Bool.or_true, if_true]
          show t.toArray.size = 256
          rw [List.size_toArray]; exact fillL_len ht
        | vol => simp only [applyK] at ha ⊢; rw [if_pos ha]; exact ⟨rfl, by simp only []; omega, h.dest, h.block, h.n, by simpa using h.text⟩
        | dest => simp only [applyK] at ha ⊢; rw [if_pos ha]; exact ⟨rfl, h.vol, by simp only []; omega, h.block, h.n, by simpa using h.text⟩
        | block => simp only [applyK] at ha ⊢; rw [if_pos ha]; exact ⟨rfl, h.vol, h.dest, by simp only []; omega, h.n, by simpa using h.text⟩
        | many => simp only [applyK] at ha ⊢; rw [if_pos ha]; exact ⟨rfl, h.vol, h.dest, h.block, by simp only []; omega, by simpa using h.text⟩
      have ih := foldK_ok ks ws _ o' _ key.2 he
      refine ⟨ih.1.trans key.1, ?_⟩
      have e := ih.2; rw [List.any_cons, ← Bool.or_assoc]; cases k <;> exact e
    · cases he
theorem parse_ok {ws : List (List UInt8)} {o : OpD} (h : parseL ws = some o) : ∃ d : Nat, d < 10 ∧ o.act = d ∧ OpOk o (decide (d = 4)) := by
  match ws, h with
  | [], h => cases h
  | c :: args, h =>
    rcases do_found c with ⟨h0, _⟩ | ⟨d, hd, rfl, hs, _⟩
    · simp only [parseL, h0] at h; cases h
    · rw [parse_at hs] at h
      split at h
      · have := foldK_ok (kindsL d) args _ o false ⟨Int.le_refl _, Int.le_refl _, Int.le_refl _, Int.le_refl _, rfl⟩ h
        refine ⟨d, hd, this.1, ?_⟩
        have e : (false || (kindsL d).any fun k => match k with | .fill => true | _ => false) = decide (d = 4) := by
          match d, hd with
          | 0, _ | 1, _ | 2, _ | 3, _ | 4, _ | 5, _ | 6, _ | 7, _ | 8, _ | 9, _ => rfl
        rw [e] at this; exact this.2
      · cases h
end Go.Proofs.YtolegljmaacabaaDoor
