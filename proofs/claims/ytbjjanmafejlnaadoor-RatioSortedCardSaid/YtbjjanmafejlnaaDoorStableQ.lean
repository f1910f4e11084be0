/- Plain facts for the stable sort: insertion sort of a run, runs laid block behind block, and that there is but one order. No program in sight. -/
import Derived.Test.YtbjjanmafejlnaaDoorStableB
namespace Go.Proofs.YtbjjanmafejlnaaDoor
open Go.RowKit Go.Sort Go.Lib Mg

section
variable {N : Nat} [Inhabited (Fin N)] {T : Fin N → Fin N → Prop} {cf : Fin N → Fin N → Int}

omit [Inhabited (Fin N)] in
theorem ltOf_iff (cf : Fin N → Fin N → Int) (x y : Fin N) : ltOf cf x y = true ↔ cf x y < 0 := by simp [ltOf]

theorem ins_inner (tr : ∀ x y z, T x y → T y z → T x z) (yes : ∀ x y : Fin N, x.val < y.val → cf y x < 0 → T y x) (no : ∀ x y : Fin N, x.val < y.val → ¬ cf y x < 0 → T x y)
    (d : Array (Fin N)) (a j : Nat) (hj : j < d.size) (hs : SortedF T (fun k => d[k]!) a j) (hx : ∀ k, a ≤ k → k < j → (d[k]!).val < (d[j]!).val) :
    ∀ (p : Nat) (r : Array (Fin N)), a ≤ p → p ≤ j → r.size = d.size → (fun k => r[k]!) = rotF (fun k => d[k]!) p j (j + 1) → (∀ k, p ≤ k → k < j → T d[j]! d[k]!) →
      ∃ i, a ≤ i ∧ i ≤ j ∧ (insInner (ltOf cf) a p r).size = d.size ∧ (fun k => (insInner (ltOf cf) a p r)[k]!) = rotF (fun k => d[k]!) i j (j + 1) ∧ (∀ k, a ≤ k → k < i → T d[k]! d[j]!) ∧ (∀ k, i ≤ k → k < j → T d[j]! d[k]!) := by
  intro p
  induction p with
  | zero =>
    intro r h1 h2 h3 h4 h5
    refine ⟨0, h1, h2, h3, h4, fun k g1 g2 => by omega, h5⟩
  | succ p ih =>
    intro r h1 h2 h3 h4 h5
    unfold insInner
    have e1 : r[p + 1]! = d[j]! := (congrFun h4 (p + 1)).trans (by
      simp only [rotF]; rw [if_pos ⟨by omega, by omega⟩, show p + 1 + (j - (p + 1)) = j from by omega])
    have e2 : r[p]! = d[p]! := (congrFun h4 p).trans (rot_out _ (by omega) (by omega))
    by_cases c : a ≤ p
    · have hxy := hx p c (by omega)
      by_cases hlt : cf d[j]! d[p]! < 0
      · have hb : (decide (p + 1 > a) && ltOf cf r[p + 1]! r[p]!) = true := by
          rw [e1, e2, (ltOf_iff cf _ _).mpr hlt]; simp; omega
        rw [if_pos hb]
        refine ih (swp r (p + 1) p) c (by omega) (by rw [size_swp]; exact h3) ?_ ?_
        · rw [← rot_back _ j p (by omega), ← h4]
          funext z
          exact swp_at r (p + 1) p z (by omega) (by omega) (by omega)
        · intro k g1 g2
          by_cases e : k = p
          · rw [e]; exact yes _ _ hxy hlt
          · exact h5 k (by omega) g2
      · have hb : (decide (p + 1 > a) && ltOf cf r[p + 1]! r[p]!) = false := by
          rw [e1, e2]
          have : ltOf cf d[j]! d[p]! = false := by
            cases h : ltOf cf d[j]! d[p]! with
            | false => rfl
            | true => exact absurd ((ltOf_iff cf _ _).mp h) hlt
          rw [this]; simp
        rw [hb]
        simp only [Bool.false_eq_true, if_false]
        refine ⟨p + 1, by omega, h2, h3, h4, ?_, h5⟩
        intro k g1 g2
        have hT := no _ _ hxy hlt
        by_cases e : k = p
        · rw [e]; exact hT
        · exact tr _ _ _ (hs k p g1 (by omega) (by omega)) hT
    · have hb : (decide (p + 1 > a) && ltOf cf r[p + 1]! r[p]!) = false := by simp; omega
      rw [hb]
      simp only [Bool.false_eq_true, if_false]
      exact ⟨p + 1, h1, h2, h3, h4, fun k g1 g2 => by omega, h5⟩

theorem ins_outer (tr : ∀ x y z, T x y → T y z → T x z) (yes : ∀ x y : Fin N, x.val < y.val → cf y x < 0 → T y x) (no : ∀ x y : Fin N, x.val < y.val → ¬ cf y x < 0 → T x y)
    (d : Array (Fin N)) (a b : Nat) (hd : d.size = N) (hb : b ≤ N) (hx : ∀ i j, a ≤ i → i < j → j < b → (d[i]!).val < (d[j]!).val) :
    ∀ (n i : Nat) (r : Array (Fin N)), b - i = n → a ≤ i → i ≤ b → Merged T (fun k => d[k]!) r a i → Merged T (fun k => d[k]!) (insOuter (ltOf cf) a b i r) a b := by
  intro n
  induction n with
  | zero =>
    intro i r hn h1 h2 hm
    obtain rfl : i = b := by omega
    rw [insOuter_stop _ _ _ _ _ (by omega)]; exact hm
  | succ n ih =>
    intro i r hn h1 h2 hm
    have hib : i < b := by omega
    unfold insOuter
    rw [if_pos hib]
    obtain ⟨m1, m2, m3, m4⟩ := hm
    have hri : r[i]! = d[i]! := m4 i (by omega)
    obtain ⟨q, q1, q2, q3, q4, q5, q6⟩ := ins_inner tr yes no r a i (by omega) m2 (fun k g1 g2 => by
      obtain ⟨k', p1, p2, p3⟩ := m3 k g1 g2
      rw [hri, show r[k]! = d[k']! from p3]; exact hx k' i p1 p2 hib) i r h1 (by omega) rfl (by
        rw [show rotF (fun k => r[k]!) i i (i + 1) = fun k => r[k]! from rot_id_left _ _ _]) (fun k g1 g2 => by omega)
    refine ih (i + 1) _ (by omega) (by omega) hib ⟨by rw [q3, m1], ?_, ?_, ?_⟩
    · rw [q4]; exact insert_last T _ a q i q1 q2 m2 q5 q6
    · intro k g1 g2
      have e := congrFun q4 k
      by_cases c1 : k < q
      · rw [rot_out _ (by omega) (by omega)] at e
        obtain ⟨k', p1, p2, p3⟩ := m3 k g1 (by omega)
        exact ⟨k', p1, by omega, e.trans p3⟩
      · by_cases c2 : k = q
        · rw [rot_at_lo _ (by omega) (by omega), show k + (i - q) = i from by omega] at e
          exact ⟨i, h1, by omega, e.trans hri⟩
        · rw [rot_at_hi _ (by omega) (by omega)] at e
          obtain ⟨k', p1, p2, p3⟩ := m3 (k - (i + 1 - i)) (by omega) (by omega)
          exact ⟨k', p1, by omega, e.trans p3⟩
    · intro k g
      have e := congrFun q4 k
      rw [rot_out _ (by omega) (by omega)] at e
      exact e.trans (m4 k (by omega))

theorem ins_merged (tr : ∀ x y z, T x y → T y z → T x z) (yes : ∀ x y : Fin N, x.val < y.val → cf y x < 0 → T y x) (no : ∀ x y : Fin N, x.val < y.val → ¬ cf y x < 0 → T x y)
    (d : Array (Fin N)) (a b : Nat) (hd : d.size = N) (hab : a ≤ b) (hb : b ≤ N) (hx : ∀ i j, a ≤ i → i < j → j < b → (d[i]!).val < (d[j]!).val) :
    Merged T (fun k => d[k]!) (insertionSort (ltOf cf) d a b) a b := by
  unfold insertionSort
  by_cases h : a < b
  · refine ins_outer tr yes no d a b hd hb hx _ (a + 1) d rfl (by omega) h ⟨hd, fun i j g1 g2 g3 => by omega, fun k g1 g2 => ⟨k, g1, g2, rfl⟩, fun k _ => rfl⟩
  · rw [insOuter_stop _ _ _ _ _ (by omega)]
    exact ⟨hd, fun i j g1 g2 g3 => by omega, fun k g1 g2 => ⟨k, g1, g2, rfl⟩, fun k _ => rfl⟩

/-- runs of M up to p, behind it runs of L -/
structure Runs (T : Fin N → Fin N → Prop) (L M : Nat) (d : Array (Fin N)) (p : Nat) : Prop where
  sz : d.size = N
  v1 : ∀ k, k < N → k < p → (d[k]!).val / M = k / M
  s1 : ∀ i j, i < j → j < N → j < p → i / M = j / M → T d[i]! d[j]!
  v2 : ∀ k, k < N → p ≤ k → (d[k]!).val / L = k / L
  s2 : ∀ i j, i < j → j < N → p ≤ i → i / L = j / L → T d[i]! d[j]!

theorem Runs.next {L M t p b : Nat} {d r : Array (Fin N)} (h : Runs T L M d p) (hM : M = L * t) (hM0 : 0 < M) (hp : ∃ c, p = M * c) (hb : b ≤ N) (hb2 : b ≤ p + M) (hb3 : b = p + M ∨ b = N) (hm : Merged T (fun k => d[k]!) r p b) :
    Runs T L M r (p + M) := by
  obtain ⟨m1, m2, m3, m4⟩ := hm
  obtain ⟨c, hc⟩ := hp
  have up : ∀ v k : Nat, v / L = k / L → v / M = k / M := by
    intro v k e
    rw [hM, ← Nat.div_div_eq_div_mul, ← Nat.div_div_eq_div_mul, e]
  have inn : ∀ k, p ≤ k → k < p + M → k / M = c := by
    intro k g1 g2
    rw [hc] at g1 g2
    exact Nat.div_eq_of_lt_le (by rw [Nat.mul_comm]; exact g1) (by rw [Nat.mul_comm]; rw [Nat.mul_succ]; exact g2)
  have low : ∀ k, k < p → k / M < c := by
    intro k g
    rw [hc] at g
    exact Nat.div_lt_of_lt_mul g
  refine ⟨m1, ?_, ?_, ?_, ?_⟩
  · intro k g1 g2
    by_cases c1 : k < p
    · rw [show r[k]! = d[k]! from m4 k (by omega)]; exact h.v1 k g1 c1
    · obtain ⟨k', p1, p2, p3⟩ := m3 k (by omega) (by omega)
      rw [show r[k]! = d[k']! from p3, up _ _ (h.v2 k' (by omega) p1), inn k' p1 (by omega), inn k (by omega) (by omega)]
  · intro i j g1 g2 g3 g4
    by_cases c1 : j < p
    · rw [show r[i]! = d[i]! from m4 i (by omega), show r[j]! = d[j]! from m4 j (by omega)]
      exact h.s1 i j g1 g2 c1 g4
    · rw [inn j (by omega) (by omega)] at g4
      by_cases c2 : i < p
      · have := low i c2; omega
      · exact m2 i j (by omega) g1 (by omega)
  · intro k g1 g2
    rw [show r[k]! = d[k]! from m4 k (by omega)]; exact h.v2 k g1 (by omega)
  · intro i j g1 g2 g3 g4
    rw [show r[i]! = d[i]! from m4 i (by omega), show r[j]! = d[j]! from m4 j (by omega)]
    exact h.s2 i j g1 g2 (by omega) g4

theorem Runs.start (d : Array (Fin N)) (hd : d.size = N) (M : Nat) (h : ∀ k, k < N → (d[k]!).val = k) : Runs T 1 M d 0 :=
  ⟨hd, fun k _ g => by omega, fun i j _ _ g => by omega, fun k g _ => by rw [h k g], fun i j g1 _ _ g2 => by simp at g2; omega⟩
theorem Runs.turn {L M p : Nat} {d : Array (Fin N)} (h : Runs T L M d p) (hp : N ≤ p) (M' : Nat) : Runs T M M' d 0 :=
  ⟨h.sz, fun k _ g => by omega, fun i j _ _ g => by omega, fun k g _ => h.v1 k g (by omega), fun i j g1 g2 _ g4 => h.s1 i j g1 g2 (by omega) g4⟩
theorem Runs.done {L M : Nat} {d : Array (Fin N)} (h : Runs T L M d 0) (hL : N ≤ L) : ∀ i j, i < j → j < N → T d[i]! d[j]! := by
  intro i j g1 g2
  exact h.s2 i j g1 g2 (Nat.zero_le _) (by rw [Nat.div_eq_of_lt (by omega), Nat.div_eq_of_lt (by omega)])
end

theorem onto (n : Nat) : ∀ f : Nat → Nat, (∀ i, i < n → f i < n) → (∀ i j, i < n → j < n → f i = f j → i = j) → ∀ y, y < n → ∃ i, i < n ∧ f i = y := by
  induction n with
  | zero => intro f _ _ y h; omega
  | succ n ih =>
    intro f hf hi y hy
    have hz := hf n (by omega)
    have hg := ih (fun i => if f i = n then f n else f i)
      (fun i h => by
        have h1 := hf i (by omega)
        have h2 := hi i n (by omega) (by omega)
        split
        · have : f i ≠ f n := fun e => by have := h2 e; omega
          omega
        · omega)
      (fun i j h h' e => by
        have h1 := hi i n (by omega) (by omega)
        have h2 := hi j n (by omega) (by omega)
        have h3 := hi i j (by omega) (by omega)
        split at e <;> split at e
        · exact h3 (by omega)
        · have := h2 (by omega); omega
        · have := h1 (by omega); omega
        · exact h3 e)
    by_cases c : y = n
    · by_cases c2 : f n = n
      · exact ⟨n, by omega, by omega⟩
      · obtain ⟨i, i1, i2⟩ := hg (f n) (by omega)
        split at i2
        · exact ⟨i, by omega, by omega⟩
        · have := hi i n (by omega) (by omega) i2; omega
    · obtain ⟨i, i1, i2⟩ := hg y (by omega)
      split at i2
      · exact ⟨n, by omega, i2⟩
      · exact ⟨i, by omega, i2⟩

/-- there is but one order -/
theorem one_order (n : Nat) [Inhabited (Fin n)] (T : Fin n → Fin n → Prop) (irr : ∀ x, ¬ T x x) (tr : ∀ x y z, T x y → T y z → T x z) (d r : Array (Fin n)) (hd : d.size = n) (hr : r.size = n)
    (sd : ∀ i j, i < j → j < n → T d[i]! d[j]!) (sr : ∀ i j, i < j → j < n → T r[i]! r[j]!) : d = r := by
  have inj : ∀ (d : Array (Fin n)), (∀ i j, i < j → j < n → T d[i]! d[j]!) → ∀ i j, i < n → j < n → d[i]! = d[j]! → i = j := by
    intro d sd i j h1 h2 e
    rcases Nat.lt_trichotomy i j with c | c | c
    · have := sd i j c h2; rw [e] at this; exact absurd this (irr _)
    · exact c
    · have := sd j i c h1; rw [e] at this; exact absurd this (irr _)
  have sur : ∀ (d : Array (Fin n)), (∀ i j, i < j → j < n → T d[i]! d[j]!) → ∀ y : Fin n, ∃ i, i < n ∧ d[i]! = y := by
    intro d sd y
    obtain ⟨i, h1, h2⟩ := onto n (fun i => (d[i]!).val) (fun i _ => (d[i]!).isLt) (fun i j h h' e => inj d sd i j h h' (Fin.ext e)) y.val y.isLt
    exact ⟨i, h1, Fin.ext h2⟩
  have same : ∀ m k, k < m → k < n → d[k]! = r[k]! := by
    intro m
    induction m with
    | zero => intro k h; omega
    | succ m ih =>
      intro k h hk
      obtain ⟨l, l1, l2⟩ := sur r sr d[k]!
      obtain ⟨q, q1, q2⟩ := sur d sd r[k]!
      by_cases c1 : l = k
      · rw [c1] at l2; exact l2.symm
      by_cases c2 : q = k
      · rw [c2] at q2; exact q2
      have hl : k < l := by
        rcases Nat.lt_trichotomy l k with c | c | c
        · have := ih l (by omega) l1
          have := inj d sd l k l1 hk (this.trans l2); omega
        · omega
        · exact c
      have hq : k < q := by
        rcases Nat.lt_trichotomy q k with c | c | c
        · have := ih q (by omega) q1
          have := inj r sr q k q1 hk (this.symm.trans q2); omega
        · omega
        · exact c
      have t1 := sr k l hl l1
      have t2 := sd k q hq q1
      rw [l2] at t1; rw [q2] at t2
      exact absurd (tr _ _ _ t1 t2) (irr _)
  apply Array.ext
  · rw [hd, hr]
  · intro i h1 h2
    have := same (i + 1) i (by omega) (by omega)
    rwa [getElem!_pos d i h1, getElem!_pos r i h2] at this
end Go.Proofs.YtbjjanmafejlnaaDoor
