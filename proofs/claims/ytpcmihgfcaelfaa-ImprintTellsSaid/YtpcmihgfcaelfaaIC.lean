/- A list cut into parts, and the tree that grows from pairs: plain. · A list shared out, and the tree that is planted: plain. · Numbers as bytes: plain. · The walk of Num (P). · The walk of Num (R). · The walk of wire.Take. · The walk of ossuaryref10.Take. -/
import Derived.Test.YtpcmihgfcaelfaaIB
import Derived.Test.YtpcmihgfcaelfaaIA
import Derived.Test.YtpcmihgfcaelfaaProg
namespace Go.Proofs.Ytpcmihgfcaelfaa
open Go.RowKit

def manyQ (n : Nat) : Nat := (n + 3) / 4
def partQ {α : Type} (l : List α) (m i : Nat) : List α := (l.drop (i * l.length / m)).take ((i + 1) * l.length / m - i * l.length / m)
def partsQ {α : Type} (l : List α) : List (List α) := (List.range (manyQ l.length)).map (partQ l (manyQ l.length))
theorem part_step {n m i : Nat} (hm : 1 ≤ m) : i * n / m ≤ (i + 1) * n / m ∧ (m ≤ n → i * n / m + 1 ≤ (i + 1) * n / m) ∧ (2 * m ≤ n → i * n / m + 2 ≤ (i + 1) * n / m) ∧ (n ≤ 4 * m → (i + 1) * n / m ≤ i * n / m + 4) := by
  have e : (i + 1) * n = i * n + n := by rw [Nat.add_mul, Nat.one_mul]
  have ad : ∀ q k : Nat, (q + k * m) / m = q / m + k := fun q k => Nat.add_mul_div_right _ _ (by omega)
  rw [e]
  refine ⟨Nat.div_le_div_right (by omega), fun h => ?_, fun h => ?_, fun h => ?_⟩
  · rw [← ad]; exact Nat.div_le_div_right (by omega)
  · rw [← ad]; exact Nat.div_le_div_right (by omega)
  · rw [← ad]; exact Nat.div_le_div_right (by omega)
theorem part_hi {n m i : Nat} (hm : 1 ≤ m) (hi : i ≤ m) : i * n / m ≤ n := by
  exact Nat.le_trans (Nat.div_le_div_right (Nat.mul_le_mul hi (Nat.le_refl _))) (by rw [Nat.mul_div_cancel_left _ (by omega)]; exact Nat.le_refl _)
theorem partQ_len {α : Type} {l : List α} {m i : Nat} (hm : 1 ≤ m) (hi : i < m) : (partQ l m i).length = (i + 1) * l.length / m - i * l.length / m := by
  unfold partQ
  rw [List.length_take, List.length_drop]
  have := part_hi (n := l.length) hm (show i + 1 ≤ m by omega)
  omega
theorem partQ_get {α : Type} {l : List α} {m i j : Nat} (hj : j < (i + 1) * l.length / m - i * l.length / m) : (partQ l m i)[j]? = l[i * l.length / m + j]? := by
  unfold partQ
  rw [List.getElem?_take, if_pos hj, List.getElem?_drop]
theorem manyQ_bd {n : Nat} (h : 1 ≤ n) : 1 ≤ manyQ n ∧ manyQ n ≤ n ∧ n ≤ 4 * manyQ n ∧ (2 ≤ n → 2 * manyQ n ≤ n) := by unfold manyQ; omega
theorem partsQ_some {α : Type} {l p : List α} (h : 1 ≤ l.length) (hp : p ∈ partsQ l) : 1 ≤ p.length ∧ p.length ≤ 4 ∧ (2 ≤ l.length → 2 ≤ p.length) := by
  unfold partsQ at hp
  rw [List.mem_map] at hp
  obtain ⟨i, hi, rfl⟩ := hp
  rw [List.mem_range] at hi
  obtain ⟨b1, b2, b3, b4⟩ := manyQ_bd h
  obtain ⟨c1, c2, c3, c4⟩ := part_step (n := l.length) (m := manyQ l.length) (i := i) b1
  rw [partQ_len b1 hi]
  refine ⟨by have := c2 b2; omega, by have := c4 b3; omega, fun h2 => by have := c3 (b4 h2); omega⟩
theorem partsQ_cat {α : Type} {l : List α} (h : 1 ≤ l.length) : (partsQ l).flatten = l := by
  obtain ⟨b1, b2, b3, b4⟩ := manyQ_bd h
  have key : ∀ k, k ≤ manyQ l.length → ((List.range k).map (partQ l (manyQ l.length))).flatten = l.take (k * l.length / manyQ l.length) := by
    intro k
    induction k with
    | zero => intro _; simp
    | succ k ih =>
      intro hk
      rw [List.range_succ, List.map_append, List.flatten_append, ih (by omega)]
      simp only [List.map_cons, List.map_nil, List.flatten_cons, List.flatten_nil, List.append_nil]
      unfold partQ
      rw [← List.take_add, Nat.add_sub_cancel' (part_step b1).1]
  unfold partsQ
  rw [key _ (Nat.le_refl _), Nat.mul_div_cancel_left _ (by omega), List.take_length]
def headK (t : NodeD) : Int := t.keys.headD 0
def leafN (p : List PairD) : NodeD := .mk (p.map Prod.fst) (p.map Prod.snd) []
def overN (p : List NodeD) : NodeD := .mk (p.map headK) [] p
/-- a row of the tree that grows: d nodes from each down to a leaf -/
structure RowOk (row : List NodeD) (l : List PairD) (d : Nat) : Prop where
  some : 1 ≤ row.length
  less : row.length * 2 ^ d ≤ 2 ^ 21
  cat : pairsL row = l
  keys : ∀ t ∈ row, 1 ≤ t.keys.length
  deep : ∀ t ∈ row, ∀ k : Int, d ≤ k → k ≤ 40 → deepN t k = d
  low : ∀ t ∈ row, sizedN t 0 = true
  two : 2 ≤ row.length → ∀ t ∈ row, sizedN t 2 = true
  one : 1 ≤ d
theorem pairs_leaf (p : List PairD) : pairsN (leafN p) = p := by
  unfold leafN
  simp only [pairsN, pairsL, List.length_nil, if_true, List.append_nil]
  induction p with
  | nil => rfl
  | cons a p ih => simp only [List.map_cons, List.zip_cons_cons, ih]
theorem pairs_over {p : List NodeD} (h : 1 ≤ p.length) : pairsN (overN p) = pairsL p := by
  unfold overN
  simp only [pairsN]
  rw [if_neg (by omega), List.nil_append]
theorem leaf_row {l : List PairD} (h1 : 1 ≤ l.length) (h2 : l.length ≤ 1000000) : RowOk ((partsQ l).map leafN) l 1 := by
  obtain ⟨b1, b2, b3, b4⟩ := manyQ_bd h1
  have hl : ((partsQ l).map leafN).length = manyQ l.length := by unfold partsQ; simp
  refine ⟨by omega, by omega, ?_, fun t ht => ?_, fun t ht k hk hk2 => ?_, fun t ht => ?_, fun hr t ht => ?_, Nat.le_refl _⟩
  · rw [pairsL_flat, List.map_map, show (pairsN ∘ leafN) = id by funext p; exact pairs_leaf p, List.map_id]; exact partsQ_cat h1
  all_goals
    rw [List.mem_map] at ht
    obtain ⟨p, hp, rfl⟩ := ht
    obtain ⟨c1, c2, c3⟩ := partsQ_some h1 hp
  · simpa [leafN, NodeD.keys] using c1
  · unfold leafN; simp only [deepN, deepK]; rw [if_neg (by omega)]; rfl
  · unfold leafN; simp only [sizedN, List.length_map, List.length_nil, if_true]; simp; omega
  · unfold leafN; simp only [sizedN, List.length_map, List.length_nil, if_true]
    have : 2 ≤ l.length := by rw [hl] at hr; omega
    have := c3 this
    simp; omega
theorem over_row {row : List NodeD} {l : List PairD} {d : Nat} (h : RowOk row l d) (h2 : 2 ≤ row.length) : RowOk ((partsQ row).map overN) l (d + 1) := by
  obtain ⟨b1, b2, b3, b4⟩ := manyQ_bd h.some
  have hl : ((partsQ row).map overN).length = manyQ row.length := by unfold partsQ; simp
  have hd : d ≤ 21 := by
    have h3 := h.less
    have h4 := Nat.le_trans (Nat.mul_le_mul h.some (Nat.le_refl (2 ^ d))) h3
    rw [Nat.one_mul] at h4
    exact (Nat.pow_le_pow_iff_right (by omega)).1 h4
  have hmem : ∀ p ∈ partsQ row, ∀ t ∈ p, t ∈ row := fun p hp t ht => by
    have := partsQ_cat h.some
    rw [← this, List.mem_flatten]; exact ⟨p, hp, ht⟩
  refine ⟨by omega, ?_, ?_, fun t ht => ?_, fun t ht k hk hk2 => ?_, fun t ht => ?_, fun hr t ht => ?_, by omega⟩
  · rw [hl, Nat.pow_succ]
    have := h.less
    have h5 : 2 * manyQ row.length * 2 ^ d ≤ row.length * 2 ^ d := Nat.mul_le_mul (b4 h2) (Nat.le_refl _)
    rw [show manyQ row.length * (2 ^ d * 2) = 2 * manyQ row.length * 2 ^ d by rw [Nat.mul_comm (2 ^ d) 2, ← Nat.mul_assoc, Nat.mul_comm (manyQ row.length) 2]]
    omega
  · rw [pairsL_flat, List.map_map]
    have e : (partsQ row).map (pairsN ∘ overN) = (partsQ row).map pairsL := List.map_congr_left fun p hp => pairs_over (partsQ_some h.some hp).1
    rw [e]
    have e2 : ∀ q : List (List NodeD), (q.map pairsL).flatten = pairsL q.flatten := fun q => by
      induction q with
      | nil => simp [pairsL]
      | cons a q ih => rw [List.map_cons, List.flatten_cons, List.flatten_cons, ih, pairsL_flat a, pairsL_flat q.flatten, pairsL_flat, List.map_append, List.flatten_append]
    rw [e2, partsQ_cat h.some]; exact h.cat
  all_goals
    rw [List.mem_map] at ht
    obtain ⟨p, hp, rfl⟩ := ht
    obtain ⟨c1, c2, c3⟩ := partsQ_some h.some hp
    have c4 := c3 h2
    have hm := hmem p hp
  · simpa [overN, NodeD.keys] using c1
  · have hdp : ∀ t ∈ p, deepN t (k - 1) = d := fun t ht => h.deep t (hm t ht) (k - 1) (by omega) (by omega)
    unfold overN
    cases p with
    | nil => simp at c1
    | cons a p =>
      have ha := hdp a (by simp)
      simp only [deepN, deepK]
      rw [if_neg (by omega), ha, deepL_all, if_pos (List.all_eq_true.2 fun u hu => decide_eq_true (hdp u (by simp [hu]))), if_neg (by have := h.one; omega)]
      push_cast; rfl
  all_goals
    have hs : sizedN (overN p) 2 = true := by
      unfold overN
      simp only [sizedN, List.length_map, List.length_nil, Bool.and_eq_true, decide_eq_true_eq]
      refine ⟨by omega, ?_⟩
      rw [if_neg (by omega), Bool.and_eq_true, decide_eq_true_eq]
      refine ⟨(by simp; omega), (sizedL_iff _ _).2 fun j t hj => ⟨h.two h2 t (hm t (List.mem_of_getElem? hj)), ?_⟩⟩
      rw [List.getElem?_map, hj, Option.map_some]
      have := h.keys t (hm t (List.mem_of_getElem? hj))
      unfold headK
      cases hk : t.keys with
      | nil => rw [hk] at this; simp at this
      | cons x xs => rfl
  · unfold overN at hs ⊢
    simp only [sizedN, Bool.and_eq_true, decide_eq_true_eq] at hs ⊢
    exact ⟨by omega, hs.2⟩
  · exact hs
/-- what grows from pairs -/
def Grown (l : List PairD) (t : NodeD) : Prop := pairsN t = l ∧ deepN t 40 ≠ 0 ∧ sizedN t 0 = true
theorem grown_row {row : List NodeD} {l : List PairD} {d : Nat} {t : NodeD} (h : RowOk row l d) (ht : row = [t]) : Grown l t := by
  subst ht
  have hd : d ≤ 21 := by
    have h3 := h.less
    simp only [List.length_cons, List.length_nil, Nat.zero_add, Nat.one_mul] at h3
    exact (Nat.pow_le_pow_iff_right (by omega)).1 h3
  refine ⟨?_, ?_, h.low t (by simp)⟩
  · have := h.cat; simpa [pairsL] using this
  · rw [h.deep t (by simp) 40 (by omega) (by omega)]; have := h.one; omega
theorem grown_nil : Grown [] (.mk [] [] []) := ⟨by simp [pairsN, pairsL], by simp [deepN, deepK], by simp [sizedN]⟩
theorem Grown.may {l : List PairD} {t : NodeD} (h : Grown l t) (hr : riseB l = true) : mayN t = true := by
  unfold mayN; rw [h.1, hr, decide_eq_true h.2.1, h.2.2]; rfl
end Go.Proofs.Ytpcmihgfcaelfaa
namespace Go.Proofs.Ytpcmihgfcaelfaa
open Go.RowKit

/-- a list cut into pieces of one to four, of two at least where there are two -/
structure CutOk {α : Type} (l : List α) (L : List (List α)) : Prop where
  cat : L.flatten = l
  many : 1 ≤ L.length ∧ L.length ≤ l.length ∧ (2 ≤ l.length → 2 * L.length ≤ l.length)
  some : ∀ p ∈ L, 1 ≤ p.length ∧ p.length ≤ 4 ∧ (2 ≤ l.length → 2 ≤ p.length)
def shareN (n m i : Nat) : Nat := n / m + if i < n % m then 1 else 0
def fromN (n m i : Nat) : Nat := i * (n / m) + min i (n % m)
def sharesQ (n : Nat) : List Int := (List.range (manyQ n)).map fun i => (shareN n (manyQ n) i : Int)
theorem fromN_step (n m i : Nat) : fromN n m (i + 1) = fromN n m i + shareN n m i := by
  unfold fromN shareN
  rw [Nat.add_mul, Nat.one_mul]
  split <;> omega
theorem fromN_end {n m : Nat} (hm : 1 ≤ m) : fromN n m m = n := by
  unfold fromN
  have h1 := Nat.div_add_mod n m
  have h2 := Nat.mod_lt n (show 0 < m by omega)
  rw [Nat.min_eq_right (by omega)]; exact h1
theorem fromN_le {n m : Nat} (hm : 1 ≤ m) : ∀ d i, i + d = m → fromN n m i ≤ n
  | 0, i, h => by rw [Nat.add_zero] at h; subst h; rw [fromN_end hm]; exact Nat.le_refl _
  | d + 1, i, h => by
    have := fromN_le (n := n) hm d (i + 1) (by omega)
    rw [fromN_step] at this; omega
theorem shareN_bd {n : Nat} (h : 1 ≤ n) (i : Nat) : 1 ≤ shareN n (manyQ n) i ∧ shareN n (manyQ n) i ≤ 4 ∧ (2 ≤ n → 2 ≤ shareN n (manyQ n) i) := by
  obtain ⟨b1, b2, b3, b4⟩ := manyQ_bd h
  obtain ⟨m, hm⟩ : ∃ m, manyQ n = m := ⟨_, rfl⟩
  rw [hm] at b1 b2 b3 b4 ⊢
  have h1 : 1 ≤ n / m := by rw [Nat.le_div_iff_mul_le (by omega)]; omega
  have h2 : 2 ≤ n → 2 ≤ n / m := fun h => by rw [Nat.le_div_iff_mul_le (by omega)]; exact b4 h
  have h3 : n / m ≤ 4 := by
    have := Nat.div_le_div_right (c := m) b3
    rw [Nat.mul_div_cancel _ (by omega)] at this; exact this
  have h4 := Nat.div_add_mod n m
  have h5 := Nat.mod_lt n (show 0 < m by omega)
  have h6 : n / m = 4 → n % m = 0 := fun e => by rw [e] at h4; omega
  unfold shareN
  split
  · exact ⟨by omega, by omega, fun h => by have := h2 h; omega⟩
  · exact ⟨by omega, by omega, fun h => by have := h2 h; omega⟩
def shareQ {α : Type} (l : List α) (i : Nat) : List α := (l.drop (fromN l.length (manyQ l.length) i)).take (shareN l.length (manyQ l.length) i)
def cutQ {α : Type} (l : List α) : List (List α) := (List.range (manyQ l.length)).map (shareQ l)
theorem shareQ_len {α : Type} {l : List α} {i : Nat} (h : 1 ≤ l.length) (hi : i < manyQ l.length) : (shareQ l i).length = shareN l.length (manyQ l.length) i := by
  unfold shareQ
  rw [List.length_take, List.length_drop]
  have h1 := fromN_le (n := l.length) (manyQ_bd h).1 (manyQ l.length - (i + 1)) (i + 1) (by omega)
  rw [fromN_step] at h1
  omega
theorem shareQ_get {α : Type} {l : List α} {i j : Nat} (hj : j < shareN l.length (manyQ l.length) i) : (shareQ l i)[j]? = l[fromN l.length (manyQ l.length) i + j]? := by
  unfold shareQ
  rw [List.getElem?_take, if_pos hj, List.getElem?_drop]
theorem cutQ_get {α : Type} {l : List α} {k : Nat} (h : k < manyQ l.length) : (cutQ l)[k]? = some (shareQ l k) := by
  unfold cutQ; rw [List.getElem?_map, List.getElem?_range h]; rfl
theorem cutQ_len {α : Type} (l : List α) : (cutQ l).length = manyQ l.length := by unfold cutQ; simp
theorem cutQ_ok {α : Type} {l : List α} (h : 1 ≤ l.length) : CutOk l (cutQ l) := by
  obtain ⟨b1, b2, b3, b4⟩ := manyQ_bd h
  have key : ∀ k, k ≤ manyQ l.length → ((List.range k).map (shareQ l)).flatten = l.take (fromN l.length (manyQ l.length) k) := by
    intro k
    induction k with
    | zero => intro _; simp [fromN]
    | succ k ih =>
      intro hk
      rw [List.range_succ, List.map_append, List.flatten_append, ih (by omega)]
      simp only [List.map_cons, List.map_nil, List.flatten_cons, List.flatten_nil, List.append_nil]
      rw [fromN_step, List.take_add]; rfl
  refine ⟨?_, by rw [cutQ_len]; exact ⟨b1, b2, b4⟩, fun p hp => ?_⟩
  · unfold cutQ
    rw [key _ (Nat.le_refl _), fromN_end b1, List.take_length]
  · unfold cutQ at hp
    rw [List.mem_map] at hp
    obtain ⟨i, hi, rfl⟩ := hp
    rw [List.mem_range] at hi
    rw [shareQ_len h hi]
    exact shareN_bd h i
theorem leaf_rowG {l : List PairD} {L : List (List PairD)} (h1 : 1 ≤ l.length) (h2 : l.length ≤ 1000000) (hc : CutOk l L) : RowOk (L.map leafN) l 1 := by
  obtain ⟨b1, b2, b4⟩ := hc.many
  have hl : (L.map leafN).length = L.length := List.length_map _
  refine ⟨by omega, by omega, ?_, fun t ht => ?_, fun t ht k hk hk2 => ?_, fun t ht => ?_, fun hr t ht => ?_, Nat.le_refl _⟩
  · rw [pairsL_flat, List.map_map, show (pairsN ∘ leafN) = id by funext p; exact pairs_leaf p, List.map_id]; exact hc.cat
  all_goals
    rw [List.mem_map] at ht
    obtain ⟨p, hp, rfl⟩ := ht
    obtain ⟨c1, c2, c3⟩ := hc.some p hp
  · simpa [leafN, NodeD.keys] using c1
  · unfold leafN; simp only [deepN, deepK]; rw [if_neg (by omega)]; rfl
  · unfold leafN; simp only [sizedN, List.length_map, List.length_nil, if_true]; simp; omega
  · unfold leafN; simp only [sizedN, List.length_map, List.length_nil, if_true]
    have : 2 ≤ l.length := by rw [hl] at hr; omega
    have := c3 this
    simp; omega
theorem over_rowG {row : List NodeD} {L : List (List NodeD)} {l : List PairD} {d : Nat} (h : RowOk row l d) (h2 : 2 ≤ row.length) (hc : CutOk row L) : RowOk (L.map overN) l (d + 1) := by
  obtain ⟨b1, b2, b4⟩ := hc.many
  have hl : (L.map overN).length = L.length := List.length_map _
  have hd : d ≤ 21 := by
    have h3 := h.less
    have h4 := Nat.le_trans (Nat.mul_le_mul h.some (Nat.le_refl (2 ^ d))) h3
    rw [Nat.one_mul] at h4
    exact (Nat.pow_le_pow_iff_right (by omega)).1 h4
  have hmem : ∀ p ∈ L, ∀ t ∈ p, t ∈ row := fun p hp t ht => by
    rw [← hc.cat, List.mem_flatten]; exact ⟨p, hp, ht⟩
  refine ⟨by omega, ?_, ?_, fun t ht => ?_, fun t ht k hk hk2 => ?_, fun t ht => ?_, fun hr t ht => ?_, by omega⟩
  · rw [hl, Nat.pow_succ]
    have := h.less
    have h5 : 2 * L.length * 2 ^ d ≤ row.length * 2 ^ d := Nat.mul_le_mul (b4 h2) (Nat.le_refl _)
    rw [show L.length * (2 ^ d * 2) = 2 * L.length * 2 ^ d by rw [Nat.mul_comm (2 ^ d) 2, ← Nat.mul_assoc, Nat.mul_comm L.length 2]]
    omega
  · rw [pairsL_flat, List.map_map]
    have e : L.map (pairsN ∘ overN) = L.map pairsL := List.map_congr_left fun p hp => pairs_over (hc.some p hp).1
    rw [e]
    have e2 : ∀ q : List (List NodeD), (q.map pairsL).flatten = pairsL q.flatten := fun q => by
      induction q with
      | nil => simp [pairsL]
      | cons a q ih => rw [List.map_cons, List.flatten_cons, List.flatten_cons, ih, pairsL_flat a, pairsL_flat q.flatten, pairsL_flat, List.map_append, List.flatten_append]
    rw [e2, hc.cat]; exact h.cat
  all_goals
    rw [List.mem_map] at ht
    obtain ⟨p, hp, rfl⟩ := ht
    obtain ⟨c1, c2, c3⟩ := hc.some p hp
    have c4 := c3 h2
    have hm := hmem p hp
  · simpa [overN, NodeD.keys] using c1
  · have hdp : ∀ t ∈ p, deepN t (k - 1) = d := fun t ht => h.deep t (hm t ht) (k - 1) (by omega) (by omega)
    unfold overN
    cases p with
    | nil => simp at c1
    | cons a p =>
      have ha := hdp a (by simp)
      simp only [deepN, deepK]
      rw [if_neg (by omega), ha, deepL_all, if_pos (List.all_eq_true.2 fun u hu => decide_eq_true (hdp u (by simp [hu]))), if_neg (by have := h.one; omega)]
      push_cast; rfl
  all_goals
    have hs : sizedN (overN p) 2 = true := by
      unfold overN
      simp only [sizedN, List.length_map, List.length_nil, Bool.and_eq_true, decide_eq_true_eq]
      refine ⟨by omega, ?_⟩
      rw [if_neg (by omega), Bool.and_eq_true, decide_eq_true_eq]
      refine ⟨(by simp; omega), (sizedL_iff _ _).2 fun j t hj => ⟨h.two h2 t (hm t (List.mem_of_getElem? hj)), ?_⟩⟩
      rw [List.getElem?_map, hj, Option.map_some]
      have := h.keys t (hm t (List.mem_of_getElem? hj))
      unfold headK
      cases hk : t.keys with
      | nil => rw [hk] at this; simp at this
      | cons x xs => rfl
  · unfold overN at hs ⊢
    simp only [sizedN, Bool.and_eq_true, decide_eq_true_eq] at hs ⊢
    exact ⟨by omega, hs.2⟩
  · exact hs
end Go.Proofs.Ytpcmihgfcaelfaa
namespace Go.Proofs.Ytpcmihgfcaelfaa
open Go.RowKit

/-- a number in seven bits a byte, the lowest ones first -/
def numL (n : Nat) : List UInt8 := if n < 128 then [UInt8.ofNat n] else UInt8.ofNat (128 + n % 128) :: numL (n / 128)
termination_by n
decreasing_by omega
theorem numL_small {n : Nat} (h : n < 128) : numL n = [UInt8.ofNat n] := by rw [numL, if_pos h]
theorem numL_big {n : Nat} (h : ¬ n < 128) : numL n = UInt8.ofNat (128 + n % 128) :: numL (n / 128) := by rw [numL, if_neg h]
theorem numL_len (n : Nat) : 1 ≤ (numL n).length := by
  rw [numL]; split <;> simp
theorem numL_le : ∀ (k n : Nat), n < 128 ^ (k + 1) → (numL n).length ≤ k + 1
  | 0, n, h => by rw [numL_small (by simpa using h)]; simp
  | k + 1, n, h => by
    by_cases hn : n < 128
    · rw [numL_small hn]; simp
    · rw [numL_big hn, List.length_cons]
      have := numL_le k (n / 128) (by rw [Nat.div_lt_iff_lt_mul (by omega), ← Nat.pow_succ]; exact h)
      omega
/-- what Num answers -/
def numS (n : Int) : List UInt8 := if 0 ≤ n ∧ n < 1099511627776 then numL n.toNat else []
theorem numS_len (n : Int) : (numS n).length ≤ 6 := by
  unfold numS
  split
  · exact numL_le 5 _ (by omega)
  · simp
theorem numS_nil {n : Int} : numS n = [] ↔ ¬ (0 ≤ n ∧ n < 1099511627776) := by
  unfold numS
  split
  · rename_i h
    have := numL_len n.toNat
    constructor
    · intro e; rw [e] at this; simp at this
    · intro e; exact absurd h e
  · rename_i h; simp [h]
/-- the number that bytes tell, seven bits each -/
def valL : List UInt8 → Nat
  | [] => 0
  | c :: l => c.toNat % 128 + 128 * valL l
theorem valL_cat : ∀ (a b : List UInt8), valL (a ++ b) = valL a + 128 ^ a.length * valL b
  | [], b => by simp [valL]
  | c :: a, b => by
    rw [List.cons_append, valL, valL, valL_cat a b, List.length_cons, Nat.pow_succ, Nat.mul_add, Nat.mul_comm (128 ^ a.length) 128, Nat.mul_assoc]; omega
theorem valL_lt : ∀ a : List UInt8, valL a < 128 ^ a.length
  | [] => by simp [valL]
  | c :: a => by
    have := valL_lt a
    rw [valL, List.length_cons, Nat.pow_succ]
    have h2 := Nat.mod_lt c.toNat (show 0 < 128 by omega)
    omega
theorem ofNat_toNat {n : Nat} (h : n < 256) : (UInt8.ofNat n).toNat = n := by simp [UInt8.toNat_ofNat', Nat.mod_eq_of_lt h]
theorem u8_eq {a : UInt8} {n : Nat} (h : n < 256) : UInt8.ofNat n = a ↔ n = a.toNat := by
  rw [← UInt8.toNat_inj, ofNat_toNat h]
/-- bytes are what their number is told by: just if the last one is not 0, or the only one -/
theorem numL_valL : ∀ (cs : List UInt8) (c : UInt8), (∀ d ∈ cs, 128 ≤ d.toNat) → c.toNat < 128 → (numL (valL (cs ++ [c])) = cs ++ [c] ↔ cs = [] ∨ c.toNat ≠ 0)
  | [], c, _, hc => by
    have e : valL ([] ++ [c]) = c.toNat := by simp [valL, Nat.mod_eq_of_lt hc]
    rw [e, numL_small hc]
    simp
  | d :: ds, c, h, hc => by
    have hd := h d (by simp)
    have hd2 : d.toNat < 256 := d.toNat_lt
    have ih := numL_valL ds c (fun x hx => h x (by simp [hx])) hc
    rw [List.cons_append, valL]
    have hm : d.toNat % 128 = d.toNat - 128 := by omega
    by_cases hz : valL (ds ++ [c]) = 0
    · have hc0 : c.toNat = 0 := by
        rw [valL_cat] at hz
        have hp : 0 < 128 ^ ds.length := Nat.pow_pos (by omega)
        have : valL [c] = c.toNat := by simp [valL, Nat.mod_eq_of_lt hc]
        rw [this] at hz
        rcases Nat.eq_zero_or_pos c.toNat with h0 | h0
        · exact h0
        · have := Nat.mul_pos hp h0; omega
      rw [hz, numL_small (by omega)]
      simp [hc0]
    · rw [numL_big (by omega)]
      have e1 : (d.toNat % 128 + 128 * valL (ds ++ [c])) / 128 = valL (ds ++ [c]) := by omega
      have e2 : 128 + (d.toNat % 128 + 128 * valL (ds ++ [c])) % 128 = d.toNat := by omega
      have e3 : UInt8.ofNat d.toNat = d := by simp
      rw [e1, e2, e3]
      simp only [List.cons.injEq, true_and, reduceCtorEq, false_or]
      rw [ih]
      constructor
      · rintro (h1 | h1)
        · subst h1
          intro h0; apply hz; simp [valL, h0]
        · exact h1
      · exact fun h1 => .inr h1
/-- what Take finds, the first byte being byte i of the number -/
def takeGo : List UInt8 → Nat → Nat → Nat → Option (Nat × Nat)
  | [], _, _, _ => none
  | _ :: _, _, _, 0 => none
  | c :: s, i, n, f + 1 => if 128 ≤ c.toNat then takeGo s (i + 1) (n + c.toNat % 128 * 128 ^ i) f else if 1099511627776 ≤ n + c.toNat % 128 * 128 ^ i ∨ (c.toNat = 0 ∧ 0 < i) then none else some (n + c.toNat % 128 * 128 ^ i, i + 1)
def takeD (s : List UInt8) (at_ : Int) : Option (Int × Int) := if 0 ≤ at_ ∧ at_ < s.length then (takeGo (s.drop at_.toNat) 0 0 6).map fun x => ((x.1 : Int), at_ + x.2) else none
theorem takeGo_bd : ∀ (s : List UInt8) (i n f : Nat) {x : Nat × Nat}, takeGo s i n f = some x → x.1 < 1099511627776 ∧ i + 1 ≤ x.2 ∧ x.2 ≤ i + s.length ∧ x.2 ≤ i + f
  | [], _, _, _, _, h => by simp [takeGo] at h
  | _ :: _, _, _, 0, _, h => by simp [takeGo] at h
  | c :: s, i, n, f + 1, x, h => by
    rw [takeGo] at h
    split at h
    · have := takeGo_bd s (i + 1) _ f h
      rw [List.length_cons]; omega
    · split at h
      · cases h
      · rename_i h1
        simp only [Option.some.injEq] at h
        subst h
        rw [List.length_cons]; simp only; omega
theorem takeD_bd {s : List UInt8} {a : Int} {x : Int × Int} (h : takeD s a = some x) : 0 ≤ x.1 ∧ x.1 < 1099511627776 ∧ 0 ≤ a ∧ a < x.2 ∧ x.2 ≤ s.length := by
  unfold takeD at h
  split at h
  · rename_i h0
    rw [Option.map_eq_some_iff] at h
    obtain ⟨y, hy, rfl⟩ := h
    have := takeGo_bd _ _ _ _ hy
    rw [List.length_drop] at this
    simp only; omega
  · cases h
/-- what is told is taken -/
theorem takeGo_num : ∀ (n : Nat) (rest : List UInt8) (i m f : Nat), m < 128 ^ i → m + n * 128 ^ i < 1099511627776 → (numL n).length ≤ f → (n ≠ 0 ∨ i = 0) → takeGo (numL n ++ rest) i m f = some (m + n * 128 ^ i, i + (numL n).length) := by
  intro n
  induction n using Nat.strongRecOn with
  | _ n ih =>
    intro rest i m f hm hb hf hn
    by_cases h : n < 128
    · rw [numL_small h] at hf ⊢
      obtain ⟨f, rfl⟩ : ∃ g, f = g + 1 := ⟨f - 1, by simp at hf; omega⟩
      have e : (UInt8.ofNat n).toNat = n := ofNat_toNat (by omega)
      rw [List.singleton_append, takeGo, e, if_neg (by omega), Nat.mod_eq_of_lt h, if_neg (by omega)]
      simp
    · rw [numL_big h] at hf ⊢
      rw [List.length_cons] at hf
      obtain ⟨f, rfl⟩ : ∃ g, f = g + 1 := ⟨f - 1, by omega⟩
      have e : (UInt8.ofNat (128 + n % 128)).toNat = 128 + n % 128 := ofNat_toNat (by omega)
      have e2 : (128 + n % 128) % 128 = n % 128 := by omega
      have e3 : m + n % 128 * 128 ^ i + n / 128 * 128 ^ (i + 1) = m + n * 128 ^ i := by
        rw [Nat.pow_succ, Nat.mul_comm (128 ^ i) 128, ← Nat.mul_assoc, Nat.add_assoc, ← Nat.add_mul]
        congr 2; omega
      rw [List.cons_append, takeGo, e, if_pos (by omega), e2, ih (n / 128) (by omega) rest (i + 1) _ f ?_ (by rw [e3]; exact hb) (by omega) (.inl (by omega)), e3, List.length_cons]
      · congr 2; omega
      · rw [Nat.pow_succ]
        have h1 : n % 128 * 128 ^ i ≤ 127 * 128 ^ i := Nat.mul_le_mul (by omega) (Nat.le_refl _)
        omega
theorem takeD_num (a rest : List UInt8) {n : Int} (h : 0 ≤ n ∧ n < 1099511627776) : takeD (a ++ numS n ++ rest) a.length = some (n, ((a.length + (numS n).length : Nat) : Int)) := by
  have hl := numS_len n
  unfold numS at hl ⊢
  rw [if_pos h] at hl ⊢
  have h1 := numL_len n.toNat
  unfold takeD
  rw [if_pos (by simp; omega), List.append_assoc, show (a.length : Int).toNat = a.length by omega, List.drop_left, takeGo_num n.toNat rest 0 0 6 (by simp) (by simp; omega) hl (.inr rfl)]
  simp; omega
/-- what is taken is told by just these bytes -/
theorem takeGo_told : ∀ (s : List UInt8) (pre : List UInt8) (f : Nat) {x : Nat × Nat}, (∀ d ∈ pre, 128 ≤ d.toNat) → takeGo s pre.length (valL pre) f = some x → numL x.1 = (pre ++ s).take x.2
  | [], _, _, _, _, h => by simp [takeGo] at h
  | _ :: _, _, 0, _, _, h => by simp [takeGo] at h
  | c :: s, pre, f + 1, x, hp, h => by
    rw [takeGo] at h
    have e : valL pre + c.toNat % 128 * 128 ^ pre.length = valL (pre ++ [c]) := by rw [valL_cat]; simp [valL, Nat.mul_comm]
    split at h
    · rename_i hc
      have := takeGo_told s (pre ++ [c]) f (x := x) (fun d hd => by
        rw [List.mem_append, List.mem_singleton] at hd
        rcases hd with hd | rfl
        · exact hp d hd
        · exact hc) (by rw [List.length_append, ← e]; exact h)
      rw [List.append_assoc] at this; exact this
    · rename_i hc
      split at h
      · cases h
      · rename_i h1
        simp only [Option.some.injEq] at h
        subst h
        simp only
        rw [e, (numL_valL pre c hp (by omega)).2 (by
          by_cases hz : pre = []
          · exact .inl hz
          · right; intro h0; exact h1 (.inr ⟨h0, List.length_pos_iff.2 hz⟩))]
        rw [show pre ++ c :: s = (pre ++ [c]) ++ s by simp, List.take_left' (by simp)]
end Go.Proofs.Ytpcmihgfcaelfaa
namespace Go.Proofs.Ytpcmihgfcaelfaa
open Go.RowKit

def strN (n : Int) : ByteArray := ⟨(numS n).toArray⟩
theorem infoB : (Try.prog.info? 5).map (fun i => (i.zero, i.size, i.bytes)) = some (some (.int .u8 0), 1, 1) := by kernel_rfl
theorem wrap_u8' {m : Nat} (h : m < 256) : IntKind.u8.wrap (m : Int) = (m : Int) := by
  simp [IntKind.wrap, IntKind.bits, IntKind.signed]; omega
theorem wrap_u8 {m : Nat} (h : m < 128) : IntKind.u8.wrap (m : Int) = (m : Int) := wrap_u8' (by omega)
theorem byte_append' (W : World) (B n : Nat) (v : Value) (l : List UInt8) (x : Nat) (hx : x < 256) (hown : W.ownsRow B 5 1 v n (bytesV l)) (hn : n ≤ 1000000) (hB : B ≤ W.heap.size) :
    ∃ g cap w2, (Builtin.append_ #[75, 75] 75 #[v, .slice (some ⟨W.heap.size, 0, none⟩) 1 1]).run Try.prog (W.alloc (.cells #[.int .u8 (x : Nat)] 5)) = .ok (.slice (some ⟨g, 0, none⟩) (n + 1) cap) w2 ∧
      w2.ownsRow B 5 1 (.slice (some ⟨g, 0, none⟩) (n + 1) cap) (n + 1) (bytesV (l ++ [UInt8.ofNat x])) ∧ Below B W w2 := by
  obtain ⟨i0, hi0, hz0, hz1, hz2⟩ := info_parts infoB
  obtain ⟨v', w', h1, h2, h3, _⟩ := run_append_own_at (P := Try.prog) (W.alloc (.cells #[.int .u8 (x : Nat)] 5)) B 75 75 5 i0 (.int .u8 0) 1 1 Try.underlying75 hi0 hz0 hz1 hz2 rfl (by decide) v n _ (hown.alloc _) ⟨W.heap.size, 0, none⟩ 1 1 [.int .u8 (x : Nat)] rfl (by
      intro j u hu
      rw [ow_at, World.cell?_alloc_at _ _ _ _ rfl]
      rcases j with _ | j
      · exact hu
      · simp at hu) (by intro u hu; simp only [List.mem_cons, List.not_mem_nil, or_false] at hu; subst hu; rfl) (by unfold maxLen; omega) (by omega) (by simp; omega)
  obtain ⟨g, cap, rfl⟩ := ownsRow_succ h2
  refine ⟨g, cap, w', h1, ?_, ow_grown (Below.refl _ _) hB hown h3⟩
  have e : (UInt8.ofNat x).toNat = x := ofNat_toNat hx
  rw [← bytesV_snoc, e]; exact h2
theorem byte_append (W : World) (B n : Nat) (v : Value) (l : List UInt8) (x : Nat) (hx : x < 128) (hown : W.ownsRow B 5 1 v n (bytesV l)) (hn : n ≤ 1000000) (hB : B ≤ W.heap.size) :
    ∃ g cap w2, (Builtin.append_ #[75, 75] 75 #[v, .slice (some ⟨W.heap.size, 0, none⟩) 1 1]).run Try.prog (W.alloc (.cells #[.int .u8 (x : Nat)] 5)) = .ok (.slice (some ⟨g, 0, none⟩) (n + 1) cap) w2 ∧
      w2.ownsRow B 5 1 (.slice (some ⟨g, 0, none⟩) (n + 1) cap) (n + 1) (bytesV (l ++ [UInt8.ofNat x])) ∧ Below B W w2 := byte_append' W B n v l x (by omega) hown hn hB
theorem meas_less {q m : Nat} (h : q < m) : (intOf (.int .i64 (q : Int))).toNat < (intOf (.int .i64 (m : Int))).toNat := by simp only [intOf]; omega
def WNumP (w : World) (n : Nat) (t v : Value) (wr : World) : Prop :=
  ∃ (m : Nat) (pre : List UInt8), t = .int .i64 m ∧ m < 1099511627776 ∧ numL n = pre ++ numL m ∧ wr.ownsRow w.heap.size 5 1 v pre.length (bytesV pre) ∧ Below w.heap.size w wr
set_option maxRecDepth 100000 in
set_option maxHeartbeats 2000000 in
theorem numP_any (n : Int) (w : World) : Calls Try.prog 45 #[.int .i64 n] w fun e w' => e = .returned (.string (strN n)) ∧ Below w.heap.size w w' := by
  by_cases hn : 0 ≤ n ∧ n < 1099511627776
  case neg =>
    have HF := Lib.hid (show strN n = ⟨#[]⟩ by unfold strN numS; rw [if_neg hn])
    have hc : decide (n < 0) = true ∨ (decide (n < 0) = false ∧ decide (1099511627776 ≤ n) = true) := by
      simp only [decide_eq_true_eq, decide_eq_false_iff_not]; omega
    clear hn
    rcases hc with h1 | ⟨h1, h2⟩
    all_goals
      go_enter Try.func45, Try.ntmps45
      go_wp2_with fail
      go_ret
      exact ⟨by rw [HF.out]; rfl, Below.refl _ _⟩
  case pos =>
    obtain ⟨k, rfl⟩ : ∃ k : Nat, n = k := ⟨n.toNat, by omega⟩
    have h1 : decide ((k : Int) < 0) = false := by simp
    have h2 : decide (1099511627776 ≤ (k : Int)) = false := by simp only [decide_eq_false_iff_not]; omega
    have HF := Lib.hid (show (strN (k : Int)) = ⟨(numL k).toArray⟩ by unfold strN numS; rw [if_pos hn]; rfl)
    have HK := Lib.hid (show k < 1099511627776 by omega)
    have HL := Lib.hid (show (numL k).length ≤ 6 from numL_le 5 k (by omega))
    clear hn
    go_enter Try.func45, Try.ntmps45
    go_wp2_with fail
    go_loopw [0, 3] (fun t v wr => WNumP w k t v wr) (fun t _ _ => (intOf t).toNat)
    case atStart => exact ⟨k, [], rfl, HK.out, rfl, World.ownsRow_nil _ _ _ _, Below.refl _ _⟩
    case round =>
      obtain ⟨m, pre, rfl, hm, hl, hown, hb⟩ := hrel
      have HOW := Lib.hid hown; have HB := Lib.hid hb; have HNL := Lib.hid hl; have HM := Lib.hid hm
      have hp : pre.length ≤ 6 := by have := HL.out; rw [hl, List.length_append] at this; omega
      have HP := Lib.hid hp
      clear hown hb hl hm hp
      by_cases hlt : m < 128
      · have hd : decide (128 ≤ (m : Int)) = false := by simp only [decide_eq_false_iff_not]; omega
        have hw8 : IntKind.u8.wrap (m : Int) = (m : Int) := wrap_u8 hlt
        obtain ⟨g, c, w2, hrun, hown2, hb2⟩ := byte_append wr w.heap.size _ _ pre m hlt HOW.out (by have := HP.out; omega) HB.out.size
        have HR := Lib.hid hrun
        obtain ⟨np, hnp⟩ : ∃ q, pre.length = q := ⟨_, rfl⟩
        have hcv := ow_text (P := Try.prog) (src := 75) (dst := 9) Try.underlying75 Try.underlying5 Try.underlying9 (by rw [List.length_append]; exact hown2)
        rw [List.length_append, List.length_singleton] at hcv
        have HB2 := Lib.hid (HB.out.trans hb2)
        rw [hnp] at hcv HR
        have HCV := Lib.hid hcv
        clear hrun hown2 hb2 hnp hcv
        have hcv := HCV.out
        go_wp2_with (at_builtin; refine Lib.wpList_append_run _ rfl _ _ _ _ rfl _ _ rfl rfl _ _ HR.out ?_)
        go_ret
        refine ⟨?_, HB2.out⟩
        rw [HF.out, HNL.out, numL_small hlt]; rfl
      · have hd : decide (128 ≤ (m : Int)) = true := by simp only [decide_eq_true_eq]; omega
        have hr : Int.tmod (m : Int) 128 = ((m % 128 : Nat) : Int) := by rw [show (128 : Int) = ((128 : Nat) : Int) from rfl, ← Int.ofNat_tmod]
        have hq : Int.tdiv (m : Int) 128 = ((m / 128 : Nat) : Int) := by rw [show (128 : Int) = ((128 : Nat) : Int) from rfl, ← Int.ofNat_tdiv]
        obtain ⟨a, ha⟩ : ∃ a, m % 128 = a := ⟨_, rfl⟩
        obtain ⟨q, hqq⟩ : ∃ q, m / 128 = q := ⟨_, rfl⟩
        rw [ha] at hr; rw [hqq] at hq
        have ha2 : a < 128 := by omega
        obtain ⟨b, hb⟩ : ∃ b, 128 + a = b := ⟨_, rfl⟩
        have hw1 : wrap64 ((a : Int) + 128) = (b : Int) := by unfold wrap64; omega
        have hw8 : IntKind.u8.wrap (b : Int) = (b : Int) := wrap_u8' (by omega)
        have HWQ := Lib.hid (show wrap64 (q : Int) = (q : Int) by have := HM.out; unfold wrap64; omega)
        obtain ⟨g, c, w2, hrun, hown2, hb2⟩ := byte_append' wr w.heap.size _ _ pre b (by omega) HOW.out (by have := HP.out; omega) HB.out.size
        have HR := Lib.hid hrun; have HOW2 := Lib.hid hown2; have HB2 := Lib.hid (HB.out.trans hb2)
        have HNL2 := Lib.hid (show numL k = (pre ++ [UInt8.ofNat b]) ++ numL q by rw [HNL.out, numL_big hlt, ha, hqq, hb]; simp)
        have HQ := Lib.hid (show q < m ∧ q < 1099511627776 by have := HM.out; omega)
        clear hrun hown2 hb2 ha hqq ha2 hb
        go_wp2_with (at_builtin; refine Lib.wpList_append_run _ rfl _ _ _ _ rfl _ _ rfl rfl _ _ HR.out ?_)
        clear hr hq hw1 hw8 hd h1 h2 hlt
        go_roundw
        case rel => rw [HWQ.out]; exact ⟨q, _, rfl, HQ.out.2, HNL2.out, by rw [List.length_append]; exact HOW2.out, HB2.out⟩
        case measure => rw [HWQ.out]; exact meas_less HQ.out.1
end Go.Proofs.Ytpcmihgfcaelfaa
namespace Go.Proofs.Ytpcmihgfcaelfaa
open Go.RowKit

def WNumR (w : World) (n : Nat) (t v : Value) (wr : World) : Prop :=
  ∃ (m : Nat) (pre : List UInt8), t = .int .i64 m ∧ m < 1099511627776 ∧ numL n = pre ++ numL m ∧ wr.ownsRow w.heap.size 5 1 v pre.length (bytesV pre) ∧ Below w.heap.size w wr
set_option maxRecDepth 100000 in
set_option maxHeartbeats 2000000 in
theorem numR_any (n : Int) (w : World) : Calls Try.prog 49 #[.int .i64 n] w fun e w' => e = .returned (.string (strN n)) ∧ Below w.heap.size w w' := by
  by_cases hn : 0 ≤ n ∧ n < 1099511627776
  case neg =>
    have HF := Lib.hid (show strN n = ⟨#[]⟩ by unfold strN numS; rw [if_neg hn])
    have hc : decide (n < 0) = true ∨ (decide (n < 0) = false ∧ decide (1099511627776 ≤ n) = true) := by
      simp only [decide_eq_true_eq, decide_eq_false_iff_not]; omega
    clear hn
    rcases hc with h1 | ⟨h1, h2⟩
    all_goals
      go_enter Try.func49, Try.ntmps49
      go_wp2_with fail
      go_ret
      exact ⟨by rw [HF.out]; rfl, Below.refl _ _⟩
  case pos =>
    obtain ⟨k, rfl⟩ : ∃ k : Nat, n = k := ⟨n.toNat, by omega⟩
    have h1 : decide ((k : Int) < 0) = false := by simp
    have h2 : decide (1099511627776 ≤ (k : Int)) = false := by simp only [decide_eq_false_iff_not]; omega
    have HF := Lib.hid (show (strN (k : Int)) = ⟨(numL k).toArray⟩ by unfold strN numS; rw [if_pos hn]; rfl)
    have HK := Lib.hid (show k < 1099511627776 by omega)
    have HL := Lib.hid (show (numL k).length ≤ 6 from numL_le 5 k (by omega))
    clear hn
    go_enter Try.func49, Try.ntmps49
    go_wp2_with fail
    go_loopw [0, 3] (fun t v wr => WNumR w k t v wr) (fun t _ _ => (intOf t).toNat)
    case atStart => exact ⟨k, [], rfl, HK.out, rfl, by have := World.ownsRow_made w #[] 0 (base := w.heap.size) (e := 5) (size := 1) (Nat.le_refl _) (by unfold maxLen; omega) rfl; simpa [bytesV] using this, (Below.refl _ _).alloc (Nat.le_refl _) _⟩
    case round =>
      obtain ⟨m, pre, rfl, hm, hl, hown, hb⟩ := hrel
      have HOW := Lib.hid hown; have HB := Lib.hid hb; have HNL := Lib.hid hl; have HM := Lib.hid hm
      have hp : pre.length ≤ 6 := by have := HL.out; rw [hl, List.length_append] at this; omega
      have HP := Lib.hid hp
      clear hown hb hl hm hp
      by_cases hlt : m < 128
      · have hd : decide (128 ≤ (m : Int)) = false := by simp only [decide_eq_false_iff_not]; omega
        have hw8 : IntKind.u8.wrap (m : Int) = (m : Int) := wrap_u8 hlt
        obtain ⟨g, c, w2, hrun, hown2, hb2⟩ := byte_append wr w.heap.size _ _ pre m hlt HOW.out (by have := HP.out; omega) HB.out.size
        have HR := Lib.hid hrun
        obtain ⟨np, hnp⟩ : ∃ q, pre.length = q := ⟨_, rfl⟩
        have hcv := ow_text (P := Try.prog) (src := 75) (dst := 9) Try.underlying75 Try.underlying5 Try.underlying9 (by rw [List.length_append]; exact hown2)
        rw [List.length_append, List.length_singleton] at hcv
        have HB2 := Lib.hid (HB.out.trans hb2)
        rw [hnp] at hcv HR
        have HCV := Lib.hid hcv
        clear hrun hown2 hb2 hnp hcv
        have hcv := HCV.out
        go_wp2_with (at_builtin; refine Lib.wpList_append_run _ rfl _ _ _ _ rfl _ _ rfl rfl _ _ HR.out ?_)
        go_ret
        refine ⟨?_, HB2.out⟩
        rw [HF.out, HNL.out, numL_small hlt]; rfl
      · have hd : decide (128 ≤ (m : Int)) = true := by simp only [decide_eq_true_eq]; omega
        have hr : Int.tmod (m : Int) 128 = ((m % 128 : Nat) : Int) := by rw [show (128 : Int) = ((128 : Nat) : Int) from rfl, ← Int.ofNat_tmod]
        have hq : Int.tdiv (m : Int) 128 = ((m / 128 : Nat) : Int) := by rw [show (128 : Int) = ((128 : Nat) : Int) from rfl, ← Int.ofNat_tdiv]
        obtain ⟨a, ha⟩ : ∃ a, m % 128 = a := ⟨_, rfl⟩
        obtain ⟨q, hqq⟩ : ∃ q, m / 128 = q := ⟨_, rfl⟩
        rw [ha] at hr; rw [hqq] at hq
        have ha2 : a < 128 := by omega
        obtain ⟨b, hb⟩ : ∃ b, 128 + a = b := ⟨_, rfl⟩
        have hw1 : wrap64 (128 + (a : Int)) = (b : Int) := by unfold wrap64; omega
        have hw8 : IntKind.u8.wrap (b : Int) = (b : Int) := wrap_u8' (by omega)
        have HWQ := Lib.hid (show wrap64 (q : Int) = (q : Int) by have := HM.out; unfold wrap64; omega)
        obtain ⟨g, c, w2, hrun, hown2, hb2⟩ := byte_append' wr w.heap.size _ _ pre b (by omega) HOW.out (by have := HP.out; omega) HB.out.size
        have HR := Lib.hid hrun; have HOW2 := Lib.hid hown2; have HB2 := Lib.hid (HB.out.trans hb2)
        have HNL2 := Lib.hid (show numL k = (pre ++ [UInt8.ofNat b]) ++ numL q by rw [HNL.out, numL_big hlt, ha, hqq, hb]; simp)
        have HQ := Lib.hid (show q < m ∧ q < 1099511627776 by have := HM.out; omega)
        clear hrun hown2 hb2 ha hqq ha2 hb
        go_wp2_with (at_builtin; refine Lib.wpList_append_run _ rfl _ _ _ _ rfl _ _ rfl rfl _ _ HR.out ?_)
        clear hr hq hw1 hw8 hd h1 h2 hlt
        go_roundw
        case rel => rw [HWQ.out]; exact ⟨q, _, rfl, HQ.out.2, HNL2.out, by rw [List.length_append]; exact HOW2.out, HB2.out⟩
        case measure => rw [HWQ.out]; exact meas_less HQ.out.1
end Go.Proofs.Ytpcmihgfcaelfaa
namespace Go.Proofs.Ytpcmihgfcaelfaa
open Go.RowKit

theorem take_nums {k m v m2 : Nat} (h6 : k < 6) (hm : m < 128 ^ k) (h : m + v % 128 * 128 ^ k = m2) : ∃ a p : Nat, a = v % 128 ∧ p = a * 128 ^ k ∧ Int.tmod (v : Int) 128 = (a : Int) ∧ wrap64 ((a : Int) * 2 ^ (7 * k)) = (p : Int) ∧ wrap64 ((m : Int) + (p : Int)) = (m2 : Int) ∧ m2 < 128 ^ (k + 1) ∧ m2 < 4398046511104 := by
  have e : (2 : Int) ^ (7 * k) = ((128 ^ k : Nat) : Int) := by
    rw [Int.pow_mul]; push_cast; rfl
  have hp : 128 ^ k ≤ 128 ^ 5 := Nat.pow_le_pow_right (by omega) (by omega)
  have h1 : v % 128 * 128 ^ k ≤ 127 * 128 ^ k := Nat.mul_le_mul (by omega) (Nat.le_refl _)
  have h5 : (128 : Nat) ^ 5 = 34359738368 := by decide
  rw [h5] at hp
  refine ⟨v % 128, v % 128 * 128 ^ k, rfl, rfl, by rw [show (128 : Int) = ((128 : Nat) : Int) from rfl, ← Int.ofNat_tmod], ?_⟩
  rw [e, ← Int.natCast_mul]
  obtain ⟨p, hp2⟩ : ∃ p, v % 128 * 128 ^ k = p := ⟨_, rfl⟩
  obtain ⟨u, hu⟩ : ∃ u, 128 ^ k = u := ⟨_, rfl⟩
  rw [hp2] at h h1 ⊢
  rw [hu] at hm h1 hp
  rw [Nat.pow_succ, hu]
  refine ⟨?_, ?_, by omega, by omega⟩ <;> unfold wrap64 <;> omega
theorem tk_meas {k : Nat} (h : k < 6) : 6 - (intOf (.int .i64 ((k : Int) + 1))).toNat < 6 - (intOf (.int .i64 (k : Int))).toNat := by simp only [intOf]; omega
def takeR (s : List UInt8) (a : Int) : Int × Int × Bool := match takeD s a with
  | some x => (x.1, x.2, true)
  | none => (0, 0, false)
def TakeEnd (s : ByteArray) (a : Int) (w : World) (e : Ending) (w' : World) : Prop := e = .returned (.tuple #[.int .i64 (takeR s.data.toList a).1, .int .i64 (takeR s.data.toList a).2.1, .bool (takeR s.data.toList a).2.2]) ∧ w = w'
/-- the rounds: byte k of the number comes next -/
def TkRel (s : ByteArray) (a : Nat) (n i : Value) : Prop :=
  ∃ k m : Nat, k ≤ 6 ∧ a + k ≤ s.size ∧ i = .int .i64 k ∧ n = .int .i64 m ∧ m < 128 ^ k ∧ takeGo (s.data.toList.drop a) 0 0 6 = takeGo (s.data.toList.drop (a + k)) k m (6 - k)
theorem takeR_none {s : List UInt8} {a : Int} (h : takeD s a = none) : takeR s a = (0, 0, false) := by unfold takeR; rw [h]
theorem takeR_some {s : List UInt8} {a : Int} {x : Int × Int} (h : takeD s a = some x) : takeR s a = (x.1, x.2, true) := by unfold takeR; rw [h]
theorem takeD_go {s : List UInt8} {a : Nat} (h : a < s.length) : takeD s a = (takeGo (s.drop a) 0 0 6).map fun x => ((x.1 : Int), (a : Int) + x.2) := by
  unfold takeD; rw [if_pos (by omega)]; simp
theorem drop_byte {s : ByteArray} {k : Nat} (hk : k < s.size) : s.data.toList.drop k = s[k] :: s.data.toList.drop (k + 1) := by
  rw [List.drop_eq_getElem_cons (by simpa using hk)]; rfl
theorem take_ret {P : Program} {fn : Func} {R : Ending → World → Prop} {tmps : Array Value} {w : World} {v : Value} (hR : R (.returned v) w) (hr : (results fn tmps).run P w = .ok v w) : bodyPost P fn R .ret { tmps := tmps, defers := [] } w := bodyPost_ret hr rfl hR
theorem end_eq {b k q : Nat} (h : b + k = q) : (b : Int) + ((k + 1 : Nat) : Int) = (q : Int) + 1 := by omega
theorem end_fit {s q : Nat} (h : s ≤ 2 ^ 63 - 1) (h2 : q < s) : wrap64 ((q : Int) + 1) = (q : Int) + 1 := by unfold wrap64; omega
theorem end_some {s : ByteArray} {w : World} {b q k n : Nat} (hq : b + k = q) (h : takeD s.data.toList b = some ((n : Int), (b : Int) + ((k + 1 : Nat) : Int))) : TakeEnd s b w (.returned (.tuple #[.int .i64 (n : Int), .int .i64 ((q : Int) + 1), .bool true])) w := by
  unfold TakeEnd
  rw [takeR_some h, end_eq hq]
  exact ⟨rfl, rfl⟩
set_option maxRecDepth 100000 in
set_option maxHeartbeats 4000000 in
theorem take_any (s : ByteArray) (hs : s.size ≤ maxLen) (a : Int) (w : World) : Calls Try.prog 30 #[.string s, .int .i64 a] w (TakeEnd s a w) := by
  unfold maxLen at hs
  have hlen : s.data.toList.length = s.size := by simp
  by_cases ha : 0 ≤ a ∧ a < s.size
  case neg =>
    have HF := Lib.hid (show TakeEnd s a w (.returned (.tuple #[.int .i64 0, .int .i64 0, .bool false])) w by
      unfold TakeEnd; rw [takeR_none (by unfold takeD; rw [hlen, if_neg ha])]; exact ⟨rfl, rfl⟩)
    have hc : decide (a < 0) = true ∨ (decide (a < 0) = false ∧ decide ((s.size : Int) ≤ a) = true) := by
      simp only [decide_eq_true_eq, decide_eq_false_iff_not]; omega
    clear ha
    rcases hc with h1 | ⟨h1, h2⟩
    all_goals
      go_enter Try.func30, Try.ntmps30
      go_wp2_with fail
      refine take_ret HF.out ?_
      simp [results, Try.results30, go_sem]
  case pos =>
    obtain ⟨b, rfl⟩ : ∃ b : Nat, a = b := ⟨a.toNat, by omega⟩
    have h1 : decide ((b : Int) < 0) = false := by simp
    have h2 : decide (s.size ≤ b) = false := by simp only [decide_eq_false_iff_not]; omega
    have HA := Lib.hid (show b < s.size by omega)
    have HTD := Lib.hid (takeD_go (s := s.data.toList) (a := b) (by rw [hlen]; omega))
    have HSZ := Lib.hid hs
    clear ha hs hlen
    go_enter Try.func30, Try.ntmps30
    go_wp2_with fail
    go_loop [7, 8] (fun n i => TkRel s b n i) (fun _ i => 6 - (intOf i).toNat)
    case atStart => exact ⟨0, 0, by omega, by have := HA.out; omega, rfl, rfl, by simp, by simp⟩
    case round =>
      obtain ⟨k, m, hk, hak, rfl, rfl, hm, hgo⟩ := hrel
      have HGO := Lib.hid hgo; have HM := Lib.hid hm; have HK := Lib.hid (And.intro hk hak)
      clear hgo hm
      by_cases hend : k < 6 ∧ b + k < s.size
      case neg =>
        have HF := Lib.hid (show TakeEnd s b w (.returned (.tuple #[.int .i64 0, .int .i64 0, .bool false])) w by
          have hn : takeGo (s.data.toList.drop (b + k)) k m (6 - k) = none := by
            by_cases h6 : k < 6
            · rw [List.drop_of_length_le (by simp; omega)]; simp [takeGo]
            · obtain rfl : k = 6 := by omega
              cases s.data.toList.drop (b + 6) <;> simp [takeGo]
          unfold TakeEnd; rw [takeR_none (by rw [HTD.out, HGO.out, hn]; rfl)]; exact ⟨rfl, rfl⟩)
        have hc : (decide ((k : Int) < 6) = false ∧ decide (k < 6) = false) ∨ ((decide ((k : Int) < 6) = true ∧ decide (k < 6) = true) ∧ decide ((k : Int) < (s.size : Int) - (b : Int)) = false) := by
          simp only [decide_eq_true_eq, decide_eq_false_iff_not]; omega
        have w1 : wrap64 ((s.size : Int) - (b : Int)) = (s.size : Int) - (b : Int) := by have := HSZ.out; unfold wrap64; omega
        clear hend hk hak
        rcases hc with ⟨d1, d1'⟩ | ⟨⟨d1, d1'⟩, d2⟩
        all_goals
          go_wp2_with fail
          refine take_ret HF.out ?_
          simp [results, Try.results30, go_sem]
      case pos =>
        obtain ⟨h6, hsz⟩ := hend
        have d1 : decide ((k : Int) < 6) = true := by simp only [decide_eq_true_eq]; omega
        have d1' : decide (k < 6) = true := by simp only [decide_eq_true_eq]; omega
        have d2 : decide ((k : Int) < (s.size : Int) - (b : Int)) = true := by simp only [decide_eq_true_eq]; omega
        have w1 : wrap64 ((s.size : Int) - (b : Int)) = (s.size : Int) - (b : Int) := by have := HSZ.out; unfold wrap64; omega
        have w2 : wrap64 ((b : Int) + (k : Int)) = ((b + k : Nat) : Int) := by have := HSZ.out; unfold wrap64; omega
        obtain ⟨q, hq⟩ : ∃ q, b + k = q := ⟨_, rfl⟩
        rw [hq] at w2 hsz
        obtain ⟨cb, hcb⟩ : ∃ c, s[q] = c := ⟨_, rfl⟩
        have HDB := Lib.hid (drop_byte hsz)
        rw [hcb] at HDB
        obtain ⟨v, hv, hv2, w3⟩ : ∃ v : Nat, cb.toNat = v ∧ v < 256 ∧ wrap64 (cb.toNat : Int) = (v : Int) := ⟨_, rfl, cb.toNat_lt, by have := cb.toNat_lt; unfold wrap64; omega⟩
        obtain ⟨m2, hm2⟩ : ∃ x, m + v % 128 * 128 ^ k = x := ⟨_, rfl⟩
        obtain ⟨a, pp, ha, hpp, hr, w4, w5, hm3, hm4⟩ := take_nums h6 HM.out hm2
        have hsh : 7 * k < 64 := by omega
        have HM3 := Lib.hid (And.intro hm3 hm4); have HM2 := Lib.hid hm2; have HQ := Lib.hid hq; have HW5 := Lib.hid w5; have HV := Lib.hid hv; have HPP := Lib.hid (And.intro ha hpp)
        have HB := Lib.hid hsz
        clear hm2 hm3 hm4 hq hk hak ha hpp hv
        by_cases hb : 128 ≤ v
        · have hb2 : (128 : Int) ≤ (v : Int) := by omega
          go_wp2_with fail
          refine ⟨⟨k + 1, m2, by omega, by have := HQ.out; have := HB.out; omega, by go_num, by rw [HW5.out], HM3.out.1, ?_⟩, tk_meas h6⟩
          rw [HGO.out, HQ.out, HDB.out, show b + (k + 1) = q + 1 by have := HQ.out; omega, show 6 - k = 6 - (k + 1) + 1 by omega, takeGo, HV.out, if_pos hb, HM2.out]
        · have hb2 : ¬ (128 : Int) ≤ (v : Int) := by omega
          have hgo := HGO.out
          rw [HQ.out, HDB.out, show 6 - k = 6 - (k + 1) + 1 by omega, takeGo, HV.out, if_neg hb, HM2.out] at hgo
          have HG2 := Lib.hid hgo
          clear hgo
          have hcs : (decide (1099511627776 ≤ m2) = true ∧ decide ((1099511627776 : Int) ≤ (m2 : Int)) = true) ∨ (decide (1099511627776 ≤ m2) = false ∧ decide ((1099511627776 : Int) ≤ (m2 : Int)) = false) := by
            simp only [decide_eq_true_eq, decide_eq_false_iff_not]; omega
          rcases hcs with ⟨l1, l2⟩ | ⟨l1, l2⟩
          · have HF := Lib.hid (show TakeEnd s b w (.returned (.tuple #[.int .i64 0, .int .i64 0, .bool false])) w by
              unfold TakeEnd
              rw [takeR_none (by rw [HTD.out, HG2.out, if_pos (.inl (by simpa using l1))]; rfl)]; exact ⟨rfl, rfl⟩)
            go_wp2_with fail
            refine take_ret HF.out ?_
            simp [results, Try.results30, go_sem]
          · have hlim : ¬ 1099511627776 ≤ m2 := by simpa using l1
            by_cases hv0 : v = 0 ∧ 0 < k
            · have HF := Lib.hid (show TakeEnd s b w (.returned (.tuple #[.int .i64 0, .int .i64 0, .bool false])) w by
                unfold TakeEnd
                rw [takeR_none (by rw [HTD.out, HG2.out, if_pos (.inr hv0)]; rfl)]; exact ⟨rfl, rfl⟩)
              have k1 : decide ((0 : Int) < (k : Int)) = true := by simp only [decide_eq_true_eq]; omega
              have k2 : decide (0 < k) = true := by simp only [decide_eq_true_eq]; omega
              have z1 : ((v : Int) == 0) = true := by simp only [beq_iff_eq]; omega
              have z2 : (v == 0) = true := by simp only [beq_iff_eq]; omega
              have z3 : decide (v = 0) = true := by simp [hv0.1]
              have z4 : (v = 0) = True := by simp [hv0.1]
              clear hv0 hlim
              go_wp2_with fail
              refine take_ret HF.out ?_
              simp [results, Try.results30, go_sem]
            · have w6 := end_fit HSZ.out HB.out
              have HF := Lib.hid (end_some (w := w) HQ.out (by rw [HTD.out, HG2.out, if_neg (fun h => h.elim hlim hv0)]; rfl))
              have hcz : (((v : Int) == 0) = false ∧ (v == 0) = false ∧ decide (v = 0) = false ∧ (v = 0) = False) ∨ ((((v : Int) == 0) = true ∧ (v == 0) = true ∧ decide (v = 0) = true ∧ (v = 0) = True) ∧ decide ((0 : Int) < (k : Int)) = false ∧ decide (0 < k) = false) := by
                by_cases h0 : v = 0
                · right; exact ⟨⟨by simp [h0], by simp [h0], by simp [h0], by simp [h0]⟩, by simp only [decide_eq_false_iff_not]; omega, by simp only [decide_eq_false_iff_not]; omega⟩
                · left; exact ⟨by simp only [beq_eq_false_iff_ne]; omega, by simp [h0], by simp [h0], by simp [h0]⟩
              clear hv0 hlim
              rcases hcz with ⟨z1, z2, z3, z4⟩ | ⟨⟨z1, z2, z3, z4⟩, k1, k2⟩
              all_goals
                go_wp2_with fail
                refine take_ret HF.out ?_
                simp [results, Try.results30, go_sem]
end Go.Proofs.Ytpcmihgfcaelfaa
namespace Go.Proofs.Ytpcmihgfcaelfaa
open Go.RowKit

/-- the rounds: byte k of the number comes next, all bytes so far are high -/
def TrRel (s : ByteArray) (a : Nat) (n u i : Value) : Prop :=
  ∃ k m : Nat, k ≤ 6 ∧ a + k ≤ s.size ∧ i = .int .i64 k ∧ n = .int .i64 m ∧ u = .int .i64 (128 ^ k : Nat) ∧ m < 128 ^ k ∧ m = valL ((s.data.toList.drop a).take k) ∧ (∀ d ∈ (s.data.toList.drop a).take k, 128 ≤ d.toNat) ∧ takeGo (s.data.toList.drop a) 0 0 6 = takeGo (s.data.toList.drop (a + k)) k m (6 - k)
theorem take_numsR {k m v m2 : Nat} (h6 : k < 6) (hm : m < 128 ^ k) (h : m + v % 128 * 128 ^ k = m2) : ∃ a u p u2 : Nat, a = v % 128 ∧ u = 128 ^ k ∧ u2 = 128 ^ (k + 1) ∧ p = a * u ∧ Int.tmod (v : Int) 128 = (a : Int) ∧ wrap64 ((a : Int) * (u : Int)) = (p : Int) ∧ wrap64 ((m : Int) + (p : Int)) = (m2 : Int) ∧ wrap64 (128 * (u : Int)) = (u2 : Int) ∧ m2 < 128 ^ (k + 1) ∧ m2 < 4398046511104 := by
  have hp : 128 ^ k ≤ 128 ^ 5 := Nat.pow_le_pow_right (by omega) (by omega)
  have h1 : v % 128 * 128 ^ k ≤ 127 * 128 ^ k := Nat.mul_le_mul (by omega) (Nat.le_refl _)
  have h5 : (128 : Nat) ^ 5 = 34359738368 := by decide
  rw [h5] at hp
  refine ⟨v % 128, 128 ^ k, v % 128 * 128 ^ k, 128 ^ (k + 1), rfl, rfl, rfl, rfl, by rw [show (128 : Int) = ((128 : Nat) : Int) from rfl, ← Int.ofNat_tmod], ?_⟩
  rw [← Int.natCast_mul]
  obtain ⟨p, hp2⟩ : ∃ p, v % 128 * 128 ^ k = p := ⟨_, rfl⟩
  rw [Nat.pow_succ]
  obtain ⟨u, hu⟩ : ∃ u, 128 ^ k = u := ⟨_, rfl⟩
  rw [hp2] at h h1 ⊢
  rw [hu] at hm h1 hp ⊢
  refine ⟨?_, ?_, ?_, by omega, by omega⟩ <;> unfold wrap64 <;> omega
theorem take_next {L : List UInt8} {b k : Nat} {c : UInt8} {r : List UInt8} (h : L.drop (b + k) = c :: r) : (L.drop b).take (k + 1) = (L.drop b).take k ++ [c] := by
  have h2 : (L.drop b).drop k = c :: r := by rw [List.drop_drop]; exact h
  rw [List.take_add, h2]; rfl
/-- the byte behind the high ones ends the number: the number is told by just these bytes, or Take finds none -/
theorem take_told {pre : List UInt8} {c : UInt8} {m2 : Nat} (hp : ∀ d ∈ pre, 128 ≤ d.toNat) (hc : ¬ 128 ≤ c.toNat) (hm : m2 = valL (pre ++ [c])) : pre ++ [c] = numS m2 ↔ ¬ (1099511627776 ≤ m2 ∨ (c.toNat = 0 ∧ 0 < pre.length)) := by
  have h := numL_valL pre c hp (by omega)
  by_cases hl : 1099511627776 ≤ m2
  · have e : numS m2 = [] := numS_nil.2 (by omega)
    rw [e]; simp [hl]
  · have e : numS m2 = numL m2 := by unfold numS; rw [if_pos (by omega)]; simp
    rw [e, hm, eq_comm, h, ← hm]
    constructor
    · rintro (h1 | h1)
      · subst h1; simp; omega
      · intro h2; rcases h2 with h2 | h2
        · exact hl h2
        · exact h1 h2.1
    · intro h1
      by_cases hz : pre = []
      · exact .inl hz
      · right; intro h0; exact h1 (.inr ⟨h0, List.length_pos_iff.2 hz⟩)
theorem ba_eq {s : ByteArray} {l : List UInt8} {b q : Nat} (h : q = b + l.length) (hl : (s.data.toList.drop b).take l.length = l) : s.extract b q = ⟨l.toArray⟩ := by
  subst h
  apply ByteArray.ext
  simp only [ByteArray.data_extract]
  apply Array.ext'
  simp [Array.toList_extract, List.extract_eq_take_drop]
  exact hl
theorem takeD_le {s : List UInt8} {a : Nat} (h : a ≤ s.length) : takeD s a = (takeGo (s.drop a) 0 0 6).map fun x => ((x.1 : Int), (a : Int) + x.2) := by
  by_cases h2 : a < s.length
  · exact takeD_go h2
  · rw [List.drop_of_length_le (by omega)]; unfold takeD; rw [if_neg (by omega)]; rfl
theorem str_ne {a b : ByteArray} (h : ¬ a = b) : (a.toList == b.toList) = false := by
  rw [beq_eq_false_iff_ne, ByteArray.toList_eq, ByteArray.toList_eq]
  intro e; exact h (ByteArray.ext (Array.ext' e))
theorem str_eq {a b : ByteArray} (h : a = b) : (a.toList == b.toList) = true := by rw [h]; simp
theorem q1_facts {b k q s : Nat} (h : b + k = q) (hb : q < s) (hs : s ≤ 2 ^ 63 - 1) : ∃ q1 : Nat, q + 1 = q1 ∧ wrap64 ((q : Int) + 1) = (q1 : Int) ∧ b ≤ q1 ∧ q1 ≤ s := ⟨q + 1, rfl, by unfold wrap64; omega, by omega, by omega⟩
theorem told_end {s : ByteArray} {b k q q1 m m2 v : Nat} {c : UInt8} {r : List UInt8} (hq : b + k = q) (hq1 : q + 1 = q1) (hsz : q < s.size) (hdb : s.data.toList.drop q = c :: r) (hv : c.toNat = v) (hb : ¬ 128 ≤ v)
    (hm : m = valL ((s.data.toList.drop b).take k)) (hm2 : m + v % 128 * 128 ^ k = m2) (hhi : ∀ d ∈ (s.data.toList.drop b).take k, 128 ≤ d.toNat) :
    s.extract b q1 = strN (m2 : Int) ↔ ¬ (1099511627776 ≤ m2 ∨ (v = 0 ∧ 0 < k)) := by
  have hlen : ((s.data.toList.drop b).take k).length = k := List.length_take_of_le (by rw [List.length_drop]; simp; omega)
  have h1 := take_next (L := s.data.toList) (b := b) (k := k) (by rw [hq]; exact hdb)
  have h2 : m2 = valL ((s.data.toList.drop b).take k ++ [c]) := by
    rw [valL_cat, ← hm, hlen, ← hm2, ← hv]; simp [valL, Nat.mul_comm]
  have h3 := take_told hhi (by rw [hv]; exact hb) h2
  rw [hlen, hv] at h3
  rw [← h3]
  have e := ba_eq (s := s) (l := (s.data.toList.drop b).take k ++ [c]) (b := b) (q := q1) (by rw [List.length_append, hlen, List.length_singleton]; omega) (by rw [List.length_append, hlen, List.length_singleton]; exact h1)
  rw [e]; unfold strN
  constructor
  · intro h; simpa using congrArg (fun x : ByteArray => x.data.toList) h
  · intro h; rw [h]
theorem end_someR {s : ByteArray} {b q q1 k n : Nat} (hq : b + k = q) (hq1 : q + 1 = q1) (h : takeD s.data.toList b = some ((n : Int), (b : Int) + ((k + 1 : Nat) : Int))) : takeR s.data.toList b = ((n : Int), (q1 : Int), true) := by
  rw [takeR_some h, end_eq hq, ← hq1]; rfl
def TakeEndR (s : ByteArray) (a : Int) (w : World) (e : Ending) (w' : World) : Prop := e = .returned (.tuple #[.int .i64 (takeR s.data.toList a).1, .int .i64 (takeR s.data.toList a).2.1, .bool (takeR s.data.toList a).2.2]) ∧ Below w.heap.size w w'
theorem TakeEnd.r {s : ByteArray} {a : Int} {w w' : World} {e : Ending} (h : TakeEnd s a w e w') : TakeEndR s a w e w' := by
  obtain ⟨h1, rfl⟩ := h; exact ⟨h1, Below.refl _ _⟩
set_option maxRecDepth 100000 in
set_option maxHeartbeats 4000000 in
theorem takeR_any (s : ByteArray) (hs : s.size ≤ maxLen) (a : Int) (w : World) : Calls Try.prog 34 #[.string s, .int .i64 a] w (TakeEndR s a w) := by
  unfold maxLen at hs
  have hlen : s.data.toList.length = s.size := by simp
  by_cases ha : 0 ≤ a ∧ a ≤ s.size
  case neg =>
    have HF := Lib.hid (show TakeEndR s a w (.returned (.tuple #[.int .i64 0, .int .i64 0, .bool false])) w by
      unfold TakeEndR; rw [takeR_none (by unfold takeD; rw [hlen, if_neg (by omega)])]; exact ⟨rfl, Below.refl _ _⟩)
    have hc : decide (a < 0) = true ∨ (decide (a < 0) = false ∧ decide ((s.size : Int) < a) = true) := by
      simp only [decide_eq_true_eq, decide_eq_false_iff_not]; omega
    clear ha
    rcases hc with h1 | ⟨h1, h2⟩
    all_goals
      go_enter Try.func34, Try.ntmps34
      go_wp2_with fail
      refine take_ret HF.out ?_
      simp [results, Try.results34, go_sem]
  case pos =>
    obtain ⟨b, rfl⟩ : ∃ b : Nat, a = b := ⟨a.toNat, by omega⟩
    have h1 : decide ((b : Int) < 0) = false := by simp
    have h2 : decide (s.size < b) = false := by simp only [decide_eq_false_iff_not]; omega
    have h3 : decide ((s.size : Int) < (b : Int)) = false := by simp only [decide_eq_false_iff_not]; omega
    have HA := Lib.hid (show b ≤ s.size by omega)
    have HTD := Lib.hid (takeD_le (s := s.data.toList) (a := b) (by rw [hlen]; omega))
    have HSZ := Lib.hid hs
    clear ha hs hlen
    go_enter Try.func34, Try.ntmps34
    go_wp2_with fail
    go_loop [7, 8, 9] (fun n u i => TrRel s b n u i) (fun _ _ i => 6 - (intOf i).toNat)
    case atStart => exact ⟨0, 0, by omega, by have := HA.out; omega, rfl, rfl, rfl, by simp, by simp [valL], by simp, by simp⟩
    case round =>
      obtain ⟨k, m, hk, hak, rfl, rfl, rfl, hm, hmv, hhi, hgo⟩ := hrel
      have HGO := Lib.hid hgo; have HM := Lib.hid hm; have HK := Lib.hid (And.intro hk hak); have HMV := Lib.hid hmv; have HHI := Lib.hid hhi
      clear hgo hm hmv hhi
      by_cases hend : k < 6 ∧ b + k < s.size
      case neg =>
        have HF := Lib.hid (show TakeEndR s b w (.returned (.tuple #[.int .i64 0, .int .i64 0, .bool false])) w by
          have hn : takeGo (s.data.toList.drop (b + k)) k m (6 - k) = none := by
            by_cases h6 : k < 6
            · rw [List.drop_of_length_le (by simp; omega)]; simp [takeGo]
            · obtain rfl : k = 6 := by omega
              cases s.data.toList.drop (b + 6) <;> simp [takeGo]
          unfold TakeEndR; rw [takeR_none (by rw [HTD.out, HGO.out, hn]; rfl)]; exact ⟨rfl, Below.refl _ _⟩)
        have w2 : wrap64 ((b : Int) + (k : Int)) = ((b + k : Nat) : Int) := by have := HSZ.out; unfold wrap64; omega
        obtain ⟨q, hq⟩ : ∃ q, b + k = q := ⟨_, rfl⟩
        rw [hq] at w2
        have hc : (decide ((k : Int) < 6) = false ∧ decide (k < 6) = false) ∨ ((decide ((k : Int) < 6) = true ∧ decide (k < 6) = true) ∧ (decide ((q : Int) < (s.size : Int)) = false ∧ decide (q < s.size) = false)) := by
          simp only [decide_eq_true_eq, decide_eq_false_iff_not]; omega
        clear hend hk hak hq
        rcases hc with ⟨d1, d1'⟩ | ⟨⟨d1, d1'⟩, d2, d2'⟩
        all_goals
          go_wp2_with fail
          refine take_ret HF.out ?_
          simp [results, Try.results34, go_sem]
      case pos =>
        obtain ⟨h6, hsz⟩ := hend
        have d1 : decide ((k : Int) < 6) = true := by simp only [decide_eq_true_eq]; omega
        have d1' : decide (k < 6) = true := by simp only [decide_eq_true_eq]; omega
        have w2 : wrap64 ((b : Int) + (k : Int)) = ((b + k : Nat) : Int) := by have := HSZ.out; unfold wrap64; omega
        have HNX := Lib.hid (fun c r => @take_next s.data.toList b k c r)
        obtain ⟨q, hq⟩ : ∃ q, b + k = q := ⟨_, rfl⟩
        rw [hq] at w2 hsz
        have d2 : decide ((q : Int) < (s.size : Int)) = true := by simp only [decide_eq_true_eq]; omega
        have d2' : decide (q < s.size) = true := by simp only [decide_eq_true_eq]; omega
        obtain ⟨cb, hcb⟩ : ∃ c, s[q] = c := ⟨_, rfl⟩
        have HDB := Lib.hid (drop_byte hsz)
        rw [hcb] at HDB
        obtain ⟨v, hv, hv2, w3⟩ : ∃ v : Nat, cb.toNat = v ∧ v < 256 ∧ wrap64 (cb.toNat : Int) = (v : Int) := ⟨_, rfl, cb.toNat_lt, by have := cb.toNat_lt; unfold wrap64; omega⟩
        obtain ⟨m2, hm2⟩ : ∃ x, m + v % 128 * 128 ^ k = x := ⟨_, rfl⟩
        obtain ⟨a, u, pp, u2, ha, hu, hu2, hpp, hr, w4, w5, w7, hm3, hm4⟩ := take_numsR h6 HM.out hm2
        rw [← hu]
        have HM3 := Lib.hid (And.intro hm3 hm4); have HM2 := Lib.hid hm2; have HQ := Lib.hid hq; have HW5 := Lib.hid w5; have HW7 := Lib.hid w7; have HV := Lib.hid hv; have HU := Lib.hid (And.intro hu hu2)
        have HB := Lib.hid hsz
        clear hm2 hm3 hm4 hq hk hak ha hpp hv hu hu2
        by_cases hb : 128 ≤ v
        · have hb2 : decide ((v : Int) < 128) = false := by simp only [decide_eq_false_iff_not]; omega
          have hb3 : decide (v < 128) = false := by simp only [decide_eq_false_iff_not]; omega
          go_wp2_with fail
          refine ⟨⟨k + 1, m2, by omega, by have := HQ.out; have := HB.out; omega, by go_num, by rw [HW5.out], by rw [HW7.out, HU.out.2], HM3.out.1, ?_, ?_, ?_⟩, tk_meas h6⟩
          · rw [HNX.out _ _ (by rw [HQ.out, HDB.out]), valL_cat, ← HMV.out, List.length_take_of_le (by rw [List.length_drop]; simp; have := HQ.out; have := HB.out; omega), ← HM2.out, ← HV.out]; simp [valL, Nat.mul_comm]
          · rw [HNX.out _ _ (by rw [HQ.out, HDB.out])]
            intro d hd
            rw [List.mem_append, List.mem_singleton] at hd
            rcases hd with hd | rfl
            · exact HHI.out d hd
            · rw [HV.out]; exact hb
          · rw [HGO.out, HQ.out, HDB.out, show b + (k + 1) = q + 1 by have := HQ.out; omega, show 6 - k = 6 - (k + 1) + 1 by omega, takeGo, HV.out, if_pos hb, HM2.out]
        · have hb2 : decide ((v : Int) < 128) = true := by simp only [decide_eq_true_eq]; omega
          have hb3 : decide (v < 128) = true := by simp only [decide_eq_true_eq]; omega
          obtain ⟨q1, hq1, w6, hq2, hq3⟩ := q1_facts HQ.out HB.out HSZ.out
          have HC := Lib.hid (numR_any (m2 : Int) w)
          have HTE := Lib.hid (told_end HQ.out hq1 HB.out HDB.out HV.out hb HMV.out HM2.out HHI.out)
          have HQ1 := Lib.hid hq1; have HW6 := Lib.hid w6
          have hgo := HGO.out
          rw [HQ.out, HDB.out, show 6 - k = 6 - (k + 1) + 1 by omega, takeGo, HV.out, if_neg hb, HM2.out] at hgo
          have HG2 := Lib.hid hgo
          clear hgo hq1
          by_cases heq : s.extract b q1 = strN (m2 : Int)
          · have HF := Lib.hid (end_someR (s := s) (n := m2) HQ.out HQ1.out (by rw [HTD.out, HG2.out, if_neg (HTE.out.1 heq)]; rfl))
            have e1 : ((s.extract b q1).toList == (strN (m2 : Int)).toList) = true := str_eq heq
            clear heq
            go_wp2_with (go_at_call 49; (with_reducible refine HC.out.mono ?_); rintro e w' ⟨rfl, hbl⟩)
            refine take_ret (v := .tuple #[.int .i64 (m2 : Int), .int .i64 (q1 : Int), .bool true]) ⟨by rw [HF.out], hbl⟩ ?_
            simp [results, Try.results34, go_sem, HW6.out]
          · have HF := Lib.hid (takeR_none (s := s.data.toList) (a := b) (by rw [HTD.out, HG2.out, if_pos (Decidable.byContradiction fun hn => heq (HTE.out.2 hn))]; rfl))
            have e1 : ((s.extract b q1).toList == (strN (m2 : Int)).toList) = false := str_ne heq
            clear heq
            go_wp2_with (go_at_call 49; (with_reducible refine HC.out.mono ?_); rintro e w' ⟨rfl, hbl⟩)
            refine take_ret (v := .tuple #[.int .i64 0, .int .i64 0, .bool false]) ⟨by rw [HF.out], hbl⟩ ?_
            simp [results, Try.results34, go_sem]
end Go.Proofs.Ytpcmihgfcaelfaa
