/- What tables hold: plain. · Volumes opened, with the bulk of their reading: it bounds how many pairs there are. -/
import Derived.Test.YtpcmihgfcaelfaaIN
import Derived.Test.YtpcmihgfcaelfaaRows
import Derived.Test.YtpcmihgfcaelfaaIP
import Derived.Test.YtpcmihgfcaelfaaIL
namespace Go.Proofs.Ytpcmihgfcaelfaa
open Go.RowKit

def sumU : List UseD → Int
  | [] => 0
  | u :: l => u.2.2.1 + sumU l
def sumT : List (List UseD) → Int
  | [] => 0
  | t :: l => sumU t + sumT l
def sumP : List PairD → Int
  | [] => 0
  | p :: l => p.2 + sumP l
theorem sumU_cat : ∀ a b : List UseD, sumU (a ++ b) = sumU a + sumU b
  | [], b => by simp [sumU]
  | x :: a, b => by simp only [List.cons_append, sumU, sumU_cat a b]; omega
theorem sumT_cat : ∀ a b : List (List UseD), sumT (a ++ b) = sumT a + sumT b
  | [], b => by simp [sumT]
  | x :: a, b => by simp only [List.cons_append, sumT, sumT_cat a b]; omega
theorem sumP_cat : ∀ a b : List PairD, sumP (a ++ b) = sumP a + sumP b
  | [], b => by simp [sumP]
  | x :: a, b => by simp only [List.cons_append, sumP, sumP_cat a b]; omega
theorem sumT_set : ∀ (T : List (List UseD)) (c : Nat) (t t' : List UseD), T[c]? = some t → sumT (T.set c t') = sumT T - sumU t + sumU t'
  | [], c, t, t', h => by simp at h
  | a :: T, 0, t, t', h => by simp at h; subst h; simp only [List.set_cons_zero, sumT]; omega
  | a :: T, c + 1, t, t', h => by
    rw [List.getElem?_cons_succ] at h
    simp only [List.set_cons_succ, sumT, sumT_set T c t t' h]; omega
theorem sumT_nil : ∀ n : Nat, sumT (List.replicate n []) = 0
  | 0 => rfl
  | n + 1 => by simp only [List.replicate_succ, sumT, sumT_nil n, sumU]; rfl
/-- counts put anew -/
theorem filter_late {l : List PairD} {k : Int} (h : ∀ p ∈ l, k < p.1) : l.filter (fun x => x.1 != k) = l := by
  rw [List.filter_eq_self]
  intro p hp
  have := h p hp
  simp only [bne_iff_ne, ne_eq]; omega
theorem getP_none {l : List PairD} {k : Int} (h : ∀ p ∈ l, k < p.1) : (getP l k).1 = 0 := by
  unfold getP
  have e : l.find? (fun x => x.1 == k) = none := by
    rw [List.find?_eq_none]
    intro p hp
    have := h p hp
    simp only [beq_iff_eq]; omega
  first | rw [e] | (split; rename_i x hx; exact absurd (List.mem_of_find?_eq_some hx) (fun hm => by have h1 := h x hm; have h2 := List.find?_some hx; simp at h2; omega); rfl)
theorem getP_cons (x : PairD) (l : List PairD) (k : Int) : (getP (x :: l) k).1 = if x.1 = k then x.2 else (getP l k).1 := by
  unfold getP
  rw [List.find?_cons]
  by_cases h : x.1 = k
  · rw [if_pos h]; simp [h]
  · rw [if_neg h]
    have : (x.1 == k) = false := by simpa using h
    simp only [this]
theorem putP_sum : ∀ (l : List PairD) (k v : Int), RiseL l → sumP (putP l k v false) = sumP l - (getP l k).1 + v
  | [], k, v, _ => by simp [putP, sumP, getP]
  | x :: l, k, v, h => by
    have h1 : ∀ p ∈ l, x.1 < p.1 := (List.pairwise_cons.1 h).1
    have ih := putP_sum l k v (List.pairwise_cons.1 h).2
    rw [putP_cons, getP_cons]
    by_cases hk : x.1 = k
    · subst hk
      simp only [Int.le_refl, and_self, if_true, Bool.false_or, decide_true, List.append_nil]
      rw [putP_late, filter_late h1]
      simp only [List.singleton_append, sumP]; omega
    · by_cases hle : k ≤ x.1
      · rw [if_pos ⟨rfl, hle⟩, if_neg hk, if_neg hk, decide_eq_true hle, Bool.false_or, putP_late, filter_late (fun p hp => by have := h1 p hp; omega), getP_none (fun p hp => by have := h1 p hp; omega)]
        simp only [List.cons_append, List.nil_append, sumP]; omega
      · rw [if_neg (fun h => hle h.2), if_neg hk, if_neg hk, decide_eq_false hle, Bool.false_or]
        simp only [List.nil_append, List.singleton_append, sumP, ih]; omega
theorem tallyP_sum : ∀ (l : List PairD) (out : List PairD), RiseL out → sumP (tallyP out l) = sumP out + l.length ∧ RiseL (tallyP out l)
  | [], out, h => by simp [tallyP, h]
  | p :: l, out, h => by
    have h1 := tallyP_sum l _ (putP_rise out p.2 ((getP out p.2).1 + 1) h)
    refine ⟨?_, h1.2⟩
    simp only [tallyP]
    rw [h1.1, putP_sum out _ _ h]
    simp only [List.length_cons]; push_cast; omega
theorem tallyV_sum : ∀ (l : List VoD) (out : List PairD), RiseL out → sumP (tallyV out l) = sumP out + (valsV l).length
  | [], out, _ => by simp [tallyV, valsV]
  | d :: l, out, h => by
    have h1 := tallyP_sum (pairsN d.map) out h
    have h2 := tallyV_sum l _ h1.2
    have e : (valsV (d :: l)).length = (pairsN d.map).length + (valsV l).length := by
      unfold valsV valsP; rw [List.map_cons, List.flatten_cons, List.length_append, List.length_map]
    simp only [tallyV]
    rw [h2, h1.1, e]; push_cast; omega
theorem counts_sum {l : List VoD} (h : mayVB l = true) : sumP (countsV l) = (valsV l).length := by
  unfold countsV
  rw [if_pos h, tallyV_sum l [] List.Pairwise.nil]; simp [sumP]
/-- what each table's uses are -/
def GoodT (T : List (List UseD)) : Prop := ∀ t ∈ T, ∀ u ∈ t, 1 ≤ u.2.2.1 ∧ u.2.2.2 = true
theorem in_chunk {n : Nat} {T : List (List UseD)} {p : PairD} (h : inOk n p = true) (hT : T.length = n) : ∃ t, T[chunkOf p]? = some t := by
  unfold inOk at h
  simp only [Bool.and_eq_true, decide_eq_true_eq] at h
  have := ref_bds h.1
  exact ⟨_, List.getElem?_eq_getElem (by unfold chunkOf; omega)⟩
theorem tabsG_facts {n : Nat} : ∀ (C : List PairD) (T T' : List (List UseD)), tabsG n T C = some T' → T.length = n → GoodT T → (∀ p ∈ C, 1 ≤ p.2) → T'.length = n ∧ GoodT T' ∧ sumT T' = sumT T + sumP C
  | [], T, T', h, h1, h2, _ => by simp only [tabsG, Option.some.injEq] at h; subst h; exact ⟨h1, h2, by simp [sumP]⟩
  | p :: C, T, T', h, h1, h2, h3 => by
    simp only [tabsG] at h
    split at h
    · rename_i hi
      obtain ⟨t, ht⟩ := in_chunk hi h1
      have e : pushT T p = T.set (chunkOf p) (t ++ [useOf p]) := by unfold pushT; rw [ht]; rfl
      have hg : GoodT (pushT T p) := by
        rw [e]
        intro x hx u hu
        rcases List.mem_or_eq_of_mem_set hx with hx | rfl
        · exact h2 x hx u hu
        · rw [List.mem_append, List.mem_singleton] at hu
          rcases hu with hu | rfl
          · exact h2 t (List.mem_of_getElem? ht) u hu
          · exact ⟨h3 p (by simp), rfl⟩
      have ih := tabsG_facts C (pushT T p) T' h (by rw [pushT_len]; exact h1) hg (fun q hq => h3 q (by simp [hq]))
      refine ⟨ih.1, ih.2.1, ?_⟩
      rw [ih.2.2, e, sumT_set T _ t _ ht, sumU_cat]
      simp only [sumP, sumU, useOf]; omega
    · simp at h
/-- a chunk more -/
theorem tabsG_more {n : Nat} : ∀ (C : List PairD) (T T' : List (List UseD)), tabsG n T C = some T' → T.length = n → tabsG (n + 1) (T ++ [[]]) C = some (T' ++ [[]])
  | [], T, T', h, _ => by simp only [tabsG, Option.some.injEq] at h; subst h; rfl
  | p :: C, T, T', h, h1 => by
    simp only [tabsG] at h ⊢
    split at h
    · rename_i hi
      have hi2 : inOk (n + 1) p = true := by
        unfold inOk at hi ⊢
        simp only [Bool.and_eq_true, decide_eq_true_eq] at hi ⊢
        exact ⟨hi.1, by omega⟩
      rw [if_pos hi2]
      obtain ⟨t, ht⟩ := in_chunk hi h1
      have hlt := (List.getElem?_eq_some_iff.1 ht).1
      have e : pushT (T ++ [[]]) p = pushT T p ++ [[]] := by
        unfold pushT
        rw [List.getElem?_append_left hlt, List.set_append_left _ _ hlt]
      rw [e]
      exact tabsG_more C (pushT T p) T' h (by rw [pushT_len]; exact h1)
    · simp at h
theorem tables_facts {l : List VoD} {c : Int} {T : List (List UseD)} (h : tablesQ l c = some T) : ∃ n : Nat, c = n ∧ 1 ≤ n ∧ n ≤ 1000 ∧ mayVB l = true ∧ T.length = n ∧ GoodT T ∧ sumT T = (valsV l).length ∧ mayTT T = true ∧ (n < 1000 → tablesQ l (c + 1) = some (T ++ [[]])) := by
  unfold tablesQ at h
  split at h
  · rename_i hc
    obtain ⟨n, rfl⟩ : ∃ n : Nat, c = n := ⟨c.toNat, by omega⟩
    rw [Int.toNat_natCast] at h
    cases hg : tabsG n (List.replicate n []) (countsV l) with
    | none => rw [hg] at h; simp at h
    | some T1 =>
      rw [hg] at h
      simp only at h
      split at h
      · rename_i hall
        simp only [Option.some.injEq] at h
        subst h
        have hf := tabsG_facts _ _ _ hg (by simp) (fun t ht u hu => by rw [List.mem_replicate] at ht; rw [ht.2] at hu; simp at hu) (fun p hp => (counts_ok hc.2.2 p hp).2.1)
        refine ⟨n, rfl, by omega, by omega, hc.2.2, hf.1, hf.2.1, ?_, ?_, fun hn => ?_⟩
        · rw [hf.2.2, sumT_nil, counts_sum hc.2.2]; omega
        · unfold mayTT; rw [hall, decide_eq_true (by omega)]; rfl
        · have hm := tabsG_more _ _ _ hg (by simp)
          rw [show List.replicate n ([] : List UseD) ++ [[]] = List.replicate (n + 1) [] by rw [List.replicate_succ']] at hm
          have hgo := tablesQ_go (l := l) (n := n + 1) (by omega) (by omega) hc.2.2
          rw [hm] at hgo
          rw [show (n : Int) + 1 = ((n + 1 : Nat) : Int) by omega, hgo]
          simp only
          rw [if_pos]
          rw [List.all_append, hall]; rfl
      · simp at h
  · simp at h
/-- the sums on the way -/
theorem sumU_nonneg {t : List UseD} (h : ∀ u ∈ t, 1 ≤ u.2.2.1) : 0 ≤ sumU t := by
  induction t with
  | nil => exact Int.le_refl _
  | cons u t ih => have h1 := h u (by simp); have h2 := ih (fun x hx => h x (by simp [hx])); simp only [sumU]; omega
theorem sumT_nonneg {T : List (List UseD)} (h : GoodT T) : 0 ≤ sumT T := by
  induction T with
  | nil => exact Int.le_refl _
  | cons t T ih => have h1 := sumU_nonneg (fun u hu => (h t (by simp) u hu).1); have h2 := ih (fun x hx => h x (by simp [hx])); simp only [sumT]; omega
theorem sum_way {T : List (List UseD)} {i k : Nat} {t : List UseD} {u : UseD} (h : GoodT T) (ht : T[i]? = some t) (hu : t[k]? = some u) : 0 ≤ sumT (T.take i) + sumU (t.take k) ∧ 1 ≤ u.2.2.1 ∧ u.2.2.2 = true ∧ sumT (T.take i) + sumU (t.take k) + u.2.2.1 ≤ sumT T ∧ sumU (t.take (k + 1)) = sumU (t.take k) + u.2.2.1 := by
  obtain ⟨hi, hx⟩ := List.getElem?_eq_some_iff.1 ht
  obtain ⟨hk, hy⟩ := List.getElem?_eq_some_iff.1 hu
  have hg := h t (List.mem_of_getElem? ht)
  have e1 : sumT T = sumT (T.take i) + (sumU t + sumT (T.drop (i + 1))) := by
    have e : T = T.take i ++ (t :: T.drop (i + 1)) := by rw [← hx, ← List.drop_eq_getElem_cons hi, List.take_append_drop]
    have := congrArg sumT e
    rw [sumT_cat] at this
    simpa only [sumT] using this
  have e2 : sumU t = sumU (t.take k) + (u.2.2.1 + sumU (t.drop (k + 1))) := by
    have e : t = t.take k ++ (u :: t.drop (k + 1)) := by rw [← hy, ← List.drop_eq_getElem_cons hk, List.take_append_drop]
    have := congrArg sumU e
    rw [sumU_cat] at this
    simpa only [sumU] using this
  have n1 := sumT_nonneg (T := T.take i) (fun x hx => h x (List.mem_of_mem_take hx))
  have n2 := sumT_nonneg (T := T.drop (i + 1)) (fun x hx => h x (List.mem_of_mem_drop hx))
  have n3 := sumU_nonneg (t := t.take k) (fun x hx => (hg x (List.mem_of_mem_take hx)).1)
  have n4 := sumU_nonneg (t := t.drop (k + 1)) (fun x hx => (hg x (List.mem_of_mem_drop hx)).1)
  have h1 := hg u (List.mem_of_getElem? hu)
  refine ⟨by omega, h1.1, h1.2, by omega, ?_⟩
  rw [List.take_add_one, hu, Option.toList_some, sumU_cat]
  simp only [sumU]; omega
theorem sumT_step {T : List (List UseD)} {i : Nat} {t : List UseD} (ht : T[i]? = some t) : sumT (T.take (i + 1)) = sumT (T.take i) + sumU t := by
  rw [List.take_add_one, ht, Option.toList_some, sumT_cat]
  simp only [sumT]; omega
theorem sumU_len {t : List UseD} (h : ∀ u ∈ t, 1 ≤ u.2.2.1) : (t.length : Int) ≤ sumU t := by
  induction t with
  | nil => exact Int.le_refl _
  | cons u t ih => have h1 := h u (by simp); have h2 := ih (fun x hx => h x (by simp [hx])); simp only [sumU, List.length_cons]; push_cast; omega
theorem len_way {T : List (List UseD)} {i : Nat} {t : List UseD} (h : GoodT T) (ht : T[i]? = some t) : (t.length : Int) ≤ sumT T := by
  obtain ⟨hi, hx⟩ := List.getElem?_eq_some_iff.1 ht
  have e1 : sumT T = sumT (T.take i) + (sumU t + sumT (T.drop (i + 1))) := by
    have e : T = T.take i ++ (t :: T.drop (i + 1)) := by rw [← hx, ← List.drop_eq_getElem_cons hi, List.take_append_drop]
    have := congrArg sumT e
    rw [sumT_cat] at this
    simpa only [sumT] using this
  have n1 := sumT_nonneg (T := T.take i) (fun x hx => h x (List.mem_of_mem_take hx))
  have n2 := sumT_nonneg (T := T.drop (i + 1)) (fun x hx => h x (List.mem_of_mem_drop hx))
  have n3 := sumU_len (fun u hu => (h t (List.mem_of_getElem? ht) u hu).1)
  omega
end Go.Proofs.Ytpcmihgfcaelfaa
namespace Go.Proofs.Ytpcmihgfcaelfaa
open Go.RowKit Go.ChangeShapes Go.WideShapes Go.Deep

section
variable {H : Type}
theorem bulk_pos (d : DataW H) : 1 ≤ Rows.uptoBulk d := by
  cases d with
  | lit x => cases x <;> simp [Rows.uptoBulk]
  | _ => simp [Rows.uptoBulk]
theorem bulkAll_len : ∀ l : List (DataW H), l.length ≤ Rows.uptoBulkAll l
  | [] => by simp [Rows.uptoBulkAll]
  | d :: l => by
    have h1 := bulk_pos d
    have h2 := bulkAll_len l
    simp only [Rows.uptoBulkAll, List.length_cons]; omega
theorem bulkAll_sum : ∀ l : List (DataW H), Rows.uptoBulkAll l = (l.map Rows.uptoBulk).sum
  | [] => by simp [Rows.uptoBulkAll]
  | d :: l => by simp only [Rows.uptoBulkAll, List.map_cons, List.sum_cons, bulkAll_sum l]
theorem sum_le_sum {α β : Type} (f : α → Nat) (g : β → Nat) : ∀ (l : List α) (ys : List β), l.length = ys.length → (∀ (i : Nat) x y, l[i]? = some x → ys[i]? = some y → f x ≤ g y) → (l.map f).sum ≤ (ys.map g).sum
  | [], [], _, _ => Nat.le_refl _
  | [], b :: ys, h, _ => by simp at h
  | a :: l, [], h, _ => by simp at h
  | a :: l, b :: ys, h, hh => by
    have h1 := hh 0 a b rfl rfl
    have h2 := sum_le_sum f g l ys (by simpa using h) (fun i x y hx hy => hh (i + 1) x y (by rw [List.getElem?_cons_succ]; exact hx) (by rw [List.getElem?_cons_succ]; exact hy))
    simp only [List.map_cons, List.sum_cons]; omega
theorem pairsL_sum : ∀ l : List NodeD, 2 * (pairsL l).length = (l.map fun t => 2 * (pairsN t).length).sum
  | [] => by simp [pairsL]
  | t :: l => by simp only [pairsL, List.length_append, List.map_cons, List.sum_cons, Nat.mul_add, pairsL_sum l]
theorem valsV_sum : ∀ l : List VoD, 2 * (valsV l).length = (l.map fun d => 2 * (pairsN d.map).length).sum
  | [] => by simp [valsV]
  | d :: l => by
    have e : (valsV (d :: l)).length = (pairsN d.map).length + (valsV l).length := by
      unfold valsV valsP; rw [List.map_cons, List.flatten_cons, List.length_append, List.length_map]
    rw [e, Nat.mul_add, valsV_sum l, List.map_cons, List.sum_cons]
variable {enc : TypeId × Value → H} {P : Program} {w : World} {base : Nat} {spare : Nat → Bool} {held : Bool}
theorem open_cellsB {t e k : Nat} {fuel : Nat} {v : Value} {x : DataW H × List MemPlace} (ht : P.underlying t = some (.slice e)) (hC : P.cellsOf e = k) (hk : 0 < k) (h : DataW.trod enc P w base spare held fuel t [v] = some x) :
    v = .slice none 0 0 ∨ ∃ (g o len cap n : Nat) (ys : List (DataW H)), fuel = n + 1 ∧ ys.length = len ∧ Rows.uptoBulkAll ys + 1 ≤ Rows.uptoBulk x.1 ∧ (v = .slice (some ⟨g, o, none⟩) len cap ∨ len = 0 ∧ ∃ a, v = .slice (some a) 0 cap) ∧ len ≤ cap ∧ cap ≤ maxLen ∧
      ∀ i, i < len → ∃ cs : List Value, cs.length = k ∧ (∀ (j : Nat) u, cs[j]? = some u → w.cell? ⟨g, o + (i * k + j), none⟩ = some u) ∧ ∃ y, ys[i]? = some y.1 ∧ DataW.trod enc P w base spare held n e cs = some y := by
  rcases DataW.trod_slice ht h with h0 | ⟨a, len, cap, elems, rest, n, hf, hcs, hx, hb, hl, hm, hlen, hel, _, _⟩
  · left; exact List.head_eq_of_cons_eq h0.1
  · right
    have hv : v = .slice (some a) len cap := List.head_eq_of_cons_eq hcs
    have hbk : Rows.uptoBulkAll (elems.map (·.1)) + 1 ≤ Rows.uptoBulk x.1 := by
      rw [hx]; simp only [Rows.uptoBulk]; omega
    have key : ∀ i, i < len → ∃ cs : List Value, cs.length = k ∧ (∀ (j : Nat) u, cs[j]? = some u → w.cell? (a.add (i * k + j)) = some u) ∧ ∃ y, (elems.map (·.1))[i]? = some y.1 ∧ DataW.trod enc P w base spare held n e cs = some y := by
      intro i hi
      have h1 := hel i hi
      rw [List.getElem?_eq_getElem (by omega), Option.bind_eq_some_iff] at h1
      obtain ⟨cs, hc, hy⟩ := h1
      rw [hC] at hc
      obtain ⟨_, hcl, hat⟩ := World.cells?_some hc
      refine ⟨cs, hcl, fun j u hu => ?_, _, ?_, hy⟩
      · have hj := (List.getElem?_eq_some_iff.1 hu).1
        rw [← Go.Deep.add_add, hat j (by omega), hu]
      · rw [List.getElem?_map, List.getElem?_eq_getElem (by omega)]; rfl
    obtain ⟨b, o, sp⟩ := a
    by_cases h0 : 0 < len
    · obtain ⟨cs, hcl, hat, _⟩ := key 0 h0
      have hspot : sp = none := by
        have := hat 0 cs[0] (List.getElem?_eq_getElem (by omega))
        simpa [Addr.add] using World.cell?_spot this
      subst hspot
      refine ⟨b, o, len, cap, n, _, hf, by rw [List.length_map]; exact hlen, hbk, .inl hv, hl, hm, fun i hil => ?_⟩
      obtain ⟨cs, hcl, hat, hy⟩ := key i hil
      exact ⟨cs, hcl, fun j u hu => by have := hat j u hu; rw [Go.WideShapes.add_plain] at this; exact this, hy⟩
    · obtain rfl : len = 0 := by omega
      exact ⟨b, o, 0, cap, n, _, hf, by rw [List.length_map]; exact hlen, hbk, .inr ⟨rfl, _, hv⟩, hl, hm, fun i hil => absurd hil (by omega)⟩
end
section
variable {H : Type} {enc : TypeId × Value → H} {w : World} {spare : Nat → Bool} {held : Bool}
theorem open_zsB {n : Nat} {v : Value} {y : DataW H × List MemPlace} (h : DataW.trod enc Try.prog w 0 spare held n 40 [v] = some y) : ∃ l, IntsAt w v l ∧ l.length ≤ Rows.uptoBulk y.1 := by
  rcases open_cellsB Try.underlying40 cells_int (by omega) h with h0 | ⟨g, o, len, cap, n', ys, _, hys, hbk, hv, hl, hm, hf⟩
  · exact ⟨[], ⟨none, 0, h0, Nat.le_refl _, Nat.zero_le _, fun i d hd => by simp at hd⟩, Nat.zero_le _⟩
  · obtain ⟨l, hll, hp⟩ := list_of len (fun i (z : Int) => i64B z ∧ w.cell? ⟨g, o + i, none⟩ = some (.int .i64 z)) (fun i hi => by
      obtain ⟨cs, hcl, hat, y', _, hy⟩ := hf i hi
      match cs, hcl with
      | [u], _ =>
        obtain ⟨z, rfl, hz⟩ := open_z hy
        exact ⟨z, hz, by have := hat 0 _ rfl; rw [Nat.mul_one, Nat.add_zero] at this; exact this⟩)
    have hle : l.length ≤ Rows.uptoBulk y.1 := by have := bulkAll_len ys; omega
    rcases hv with hv | ⟨h0, a, hv⟩
    · exact ⟨l, ⟨_, cap, by rw [hll]; exact hv, by rw [hll]; exact hl, hm, fun i z hz => ⟨(hp i z hz).1, g, o, rfl, (hp i z hz).2⟩⟩, hle⟩
    · subst h0
      obtain rfl : l = [] := List.eq_nil_of_length_eq_zero hll
      exact ⟨[], ⟨_, cap, hv, Nat.zero_le _, hm, fun i d hd => by simp at hd⟩, Nat.zero_le _⟩
theorem bulk3 (a b c : DataW H) : Rows.uptoBulk (.agg [a, b, c]) = Rows.uptoBulk a + Rows.uptoBulk b + Rows.uptoBulk c + 1 := by
  simp only [Rows.uptoBulk, Rows.uptoBulkAll]; omega
theorem three {xs : List (DataW H × List MemPlace)} (h : xs.length = 3) : ∃ a b c, xs = [a, b, c] := by
  match xs, h with
  | [a, b, c], _ => exact ⟨a, b, c, rfl⟩
theorem open_nodeB : ∀ (n : Nat) (a b c : Value) (y : DataW H × List MemPlace), DataW.trod enc Try.prog w 0 spare held n 43 [a, b, c] = some y → ∃ t, NodeAt w t a b c ∧ 2 * (pairsN t).length ≤ Rows.uptoBulk y.1 := by
  intro n
  induction n using Nat.strongRecOn with
  | _ n ih =>
    intro a b c y h
    obtain ⟨xs, m, rfl, hy1, _, hlen, hf⟩ := DataW.trod_struct Try.underlying43 h
    have h0 := trod_field (j := 0) (T := 40) (off := 0) rfl cells_ints hf
    have h1 := trod_field (j := 1) (T := 40) (off := 1) rfl cells_ints hf
    have h2 := trod_field (j := 2) (T := 41) (off := 2) rfl cells_nodes hf
    have h0' : DataW.trod enc Try.prog w 0 spare held m 40 [a] = xs[0]? := h0
    have h1' : DataW.trod enc Try.prog w 0 spare held m 40 [b] = xs[1]? := h1
    have h2' : DataW.trod enc Try.prog w 0 spare held m 41 [c] = xs[2]? := h2
    obtain ⟨x0, x1, x2, rfl⟩ := three (show xs.length = 3 from hlen)
    obtain ⟨ks, hks, hkb⟩ := open_zsB (y := x0) h0'
    obtain ⟨vs, hvs, hvb⟩ := open_zsB (y := x1) h1'
    have hbk : Rows.uptoBulk y.1 = Rows.uptoBulk x0.1 + Rows.uptoBulk x1.1 + Rows.uptoBulk x2.1 + 1 := by
      rw [hy1]; exact bulk3 _ _ _
    have hkids : ∃ l, NodesAt w c l ∧ 2 * (pairsL l).length ≤ Rows.uptoBulk x2.1 := by
      rcases open_cellsB (x := x2) Try.underlying41 cells_node (by omega) h2' with h0 | ⟨g, o, len, cap, n', ys, hn', hys, hb2, hv, hl, hm, hf⟩
      · exact ⟨[], ⟨none, 0, h0, Nat.le_refl _, Nat.zero_le _, fun i d hd => by simp at hd⟩, by simp [pairsL]⟩
      · obtain ⟨l, hll, hp⟩ := list_of len (fun i (t : NodeD) => KidAt w (some ⟨g, o, none⟩) i t ∧ ∃ y, ys[i]? = some y ∧ 2 * (pairsN t).length ≤ Rows.uptoBulk y) (fun i hi => by
          obtain ⟨cs, hcl, hat, y', hyi, hy⟩ := hf i hi
          match cs, hcl with
          | [x, y, z], _ =>
            obtain ⟨t, ht, htb⟩ := ih n' (by omega) x y z _ hy
            exact ⟨t, ⟨g, o, x, y, z, rfl, hat 0 _ rfl, hat 1 _ rfl, hat 2 _ rfl, ht⟩, _, hyi, htb⟩)
        have hle : 2 * (pairsL l).length ≤ Rows.uptoBulk x2.1 := by
          have := sum_le_sum (fun t => 2 * (pairsN t).length) Rows.uptoBulk l ys (by omega) (fun i t y ht hy => by
            obtain ⟨_, y2, hy2, hb⟩ := hp i t ht
            rw [hy] at hy2; cases hy2; exact hb)
          rw [pairsL_sum]
          rw [bulkAll_sum] at hb2
          omega
        rcases hv with hv | ⟨h0, a, hv⟩
        · exact ⟨l, ⟨_, cap, by rw [hll]; exact hv, by rw [hll]; exact hl, hm, fun j t ht => (hp j t ht).1⟩, hle⟩
        · subst h0
          obtain rfl : l = [] := List.eq_nil_of_length_eq_zero hll
          exact ⟨[], ⟨_, cap, hv, Nat.zero_le _, hm, fun i d hd => by simp at hd⟩, hle⟩
    obtain ⟨kids, hkids, hkl⟩ := hkids
    refine ⟨.mk ks vs kids, nodeAt_iff.2 ⟨hks, hvs, hkids⟩, ?_⟩
    have hz : 2 * (if kids.length = 0 then ks.zip vs else []).length ≤ ks.length + vs.length := by
      split
      · rw [List.length_zip]; omega
      · simp
    simp only [pairsN, List.length_append]
    omega
theorem open_volB {n : Nat} {cs : List Value} {y : DataW H × List MemPlace} (hl : cs.length = 5) (h : DataW.trod enc Try.prog w 0 spare held n 45 cs = some y) : ∃ (d : VoD) (a b c : Value), cs = [.int .i64 d.id, .int .i64 d.size, a, b, c] ∧ i64B d.id ∧ i64B d.size ∧ NodeAt w d.map a b c ∧ 2 * (pairsN d.map).length ≤ Rows.uptoBulk y.1 := by
  match cs, hl with
  | [c0, c1, a, b, c], _ =>
    obtain ⟨xs, m, rfl, hy1, _, hlen, hf⟩ := DataW.trod_struct Try.underlying45 h
    have h0 := trod_field (j := 0) (T := 3) (off := 0) rfl cells_int hf
    have h1 := trod_field (j := 1) (T := 3) (off := 1) rfl cells_int hf
    have h2 := trod_field (j := 2) (T := 43) (off := 2) rfl cells_node hf
    have h0' : DataW.trod enc Try.prog w 0 spare held m 3 [c0] = xs[0]? := h0
    have h1' : DataW.trod enc Try.prog w 0 spare held m 3 [c1] = xs[1]? := h1
    have h2' : DataW.trod enc Try.prog w 0 spare held m 43 [a, b, c] = xs[2]? := h2
    obtain ⟨x0, x1, x2, rfl⟩ := three (show xs.length = 3 from hlen)
    obtain ⟨i, rfl, hi⟩ := open_z (y := x0) h0'
    obtain ⟨s, rfl, hs⟩ := open_z (y := x1) h1'
    obtain ⟨t, ht, htb⟩ := open_nodeB _ _ _ _ x2 h2'
    have hbk : Rows.uptoBulk y.1 = Rows.uptoBulk x0.1 + Rows.uptoBulk x1.1 + Rows.uptoBulk x2.1 + 1 := by
      rw [hy1]; exact bulk3 _ _ _
    exact ⟨⟨i, s, t⟩, a, b, c, rfl, hi, hs, ht, by simp only; omega⟩
theorem open_volsB {n : Nat} {v : Value} {y : DataW H × List MemPlace} (h : DataW.trod enc Try.prog w 0 spare held n 22 [v] = some y) : ∃ l, VolsAt w v l ∧ 2 * (valsV l).length ≤ Rows.uptoBulk y.1 := by
  rcases open_cellsB Try.underlying22 cells_vol (by omega) h with h0 | ⟨g, o, len, cap, n', ys, _, hys, hbk, hv, hl, hm, hf⟩
  · exact ⟨[], ⟨none, 0, h0, Nat.le_refl _, Nat.zero_le _, fun i d hd => by simp at hd⟩, by simp [valsV]⟩
  · obtain ⟨l, hll, hp⟩ := list_of len (fun i (d : VoD) => (i64B d.id ∧ i64B d.size ∧ ∃ a b c, w.cell? ⟨g, o + i * 5, none⟩ = some (.int .i64 d.id) ∧ w.cell? ⟨g, o + i * 5 + 1, none⟩ = some (.int .i64 d.size) ∧ w.cell? ⟨g, o + i * 5 + 2, none⟩ = some a ∧ w.cell? ⟨g, o + i * 5 + 3, none⟩ = some b ∧ w.cell? ⟨g, o + i * 5 + 4, none⟩ = some c ∧ NodeAt w d.map a b c) ∧ ∃ y, ys[i]? = some y ∧ 2 * (pairsN d.map).length ≤ Rows.uptoBulk y) (fun i hi => by
      obtain ⟨cs, hcl, hat, y', hyi, hy⟩ := hf i hi
      obtain ⟨d, a, b, c, rfl, h1, h2, h3, h4⟩ := open_volB hcl hy
      exact ⟨d, ⟨h1, h2, a, b, c, hat 0 _ rfl, hat 1 _ rfl, hat 2 _ rfl, hat 3 _ rfl, hat 4 _ rfl, h3⟩, _, hyi, h4⟩)
    have hle : 2 * (valsV l).length ≤ Rows.uptoBulk y.1 := by
      have := sum_le_sum (fun d : VoD => 2 * (pairsN d.map).length) Rows.uptoBulk l ys (by omega) (fun i d y hd hy => by
        obtain ⟨_, y2, hy2, hb⟩ := hp i d hd
        rw [hy] at hy2; cases hy2; exact hb)
      rw [valsV_sum]
      rw [bulkAll_sum] at hbk
      omega
    rcases hv with hv | ⟨h0, a, hv⟩
    · refine ⟨l, ⟨_, cap, by rw [hll]; exact hv, by rw [hll]; exact hl, hm, fun i d hd => ?_⟩, hle⟩
      obtain ⟨⟨h1, h2, a, b, c, h3⟩, _⟩ := hp i d hd
      exact ⟨h1, h2, g, o, a, b, c, rfl, h3⟩
    · subst h0
      obtain rfl : l = [] := List.eq_nil_of_length_eq_zero hll
      exact ⟨[], ⟨_, cap, hv, Nat.zero_le _, hm, fun i d hd => by simp at hd⟩, hle⟩
set_option maxRecDepth 100000 in
theorem open_volsU {r : Reach} {b0 : Nat} {v : Value} {d : DataW H} {ps : List MemPlace} (hv : Value.okWide Try.prog w r b0 22 v) (h : DataW.Trod enc Try.prog w 0 spare held 22 v d ps) : ∃ l, VolsAt w v l ∧ 2 * (valsV l).length ≤ Rows.uptoBulk d := by
  obtain ⟨A, n, cap, rfl⟩ := okWide_slice Try.underlying22 hv
  obtain ⟨fuel, h⟩ := h
  exact open_volsB (n := fuel) h
end
end Go.Proofs.Ytpcmihgfcaelfaa
