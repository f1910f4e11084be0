/- Counting values: plain. · A map of counts of the call's own; marks of ranges among the deferred calls. -/
import Derived.Test.YtpcmihgfcaelfaaIH
import Derived.Maps.OwnIn
namespace Go.Proofs.Ytpcmihgfcaelfaa
open Go.RowKit

def RiseL (l : List PairD) : Prop := l.Pairwise fun a b => a.1 < b.1
theorem rise_ext : ∀ {a b : List PairD}, RiseL a → RiseL b → (∀ p, p ∈ a ↔ p ∈ b) → a = b
  | [], [], _, _, _ => rfl
  | [], y :: b, _, _, h => by have := (h y).2 (by simp); simp at this
  | x :: a, [], _, _, h => by have := (h x).1 (by simp); simp at this
  | x :: a, y :: b, ha, hb, h => by
    unfold RiseL at ha hb
    rw [List.pairwise_cons] at ha hb
    have hxy : x = y := by
      have h1 := (h x).1 (by simp)
      have h2 := (h y).2 (by simp)
      rw [List.mem_cons] at h1 h2
      rcases h1 with h1 | h1
      · exact h1
      rcases h2 with h2 | h2
      · exact h2.symm
      have h3 := hb.1 x h1; have h4 := ha.1 y h2
      omega
    subst hxy
    have hab : a = b := rise_ext (a := a) (b := b) ha.2 hb.2 fun p => by
      constructor
      · intro hp
        have h5 := (h p).1 (by simp [hp])
        rw [List.mem_cons] at h5
        rcases h5 with rfl | h5
        · have := ha.1 p hp; omega
        · exact h5
      · intro hp
        have h5 := (h p).2 (by simp [hp])
        rw [List.mem_cons] at h5
        rcases h5 with rfl | h5
        · have := hb.1 p hp; omega
        · exact h5
    rw [hab]
theorem putP_late : ∀ (l : List PairD) (k v : Int), putP l k v true = l.filter fun x => x.1 != k
  | [], k, v => by simp [putP]
  | x :: l, k, v => by
    rw [putP_cons, if_neg (by simp), Bool.true_or, putP_late l k v]
    by_cases h : x.1 = k <;> simp [h]
theorem putP_has : ∀ (l : List PairD) (k v : Int), RiseL l → ∀ p, p ∈ putP l k v false ↔ p = (k, v) ∨ (p ∈ l ∧ p.1 ≠ k)
  | [], k, v, _, p => by simp [putP]
  | x :: l, k, v, h, p => by
    unfold RiseL at h
    rw [List.pairwise_cons] at h
    rw [putP_cons]
    by_cases hk : k ≤ x.1
    · rw [if_pos ⟨rfl, hk⟩, decide_eq_true hk, Bool.or_true, putP_late]
      by_cases hx : x.1 = k
      · rw [if_pos hx]
        simp only [List.append_nil, List.mem_append, List.not_mem_nil, or_false, List.mem_filter, List.mem_cons, bne_iff_ne, ne_eq]
        constructor
        · rintro (h1 | h1)
          · exact .inl h1
          · exact .inr ⟨.inr h1.1, h1.2⟩
        · rintro (h1 | ⟨h1 | h1, h2⟩)
          · exact .inl h1
          · subst h1; exact absurd hx h2
          · exact .inr ⟨h1, h2⟩
      · rw [if_neg hx]
        simp only [List.mem_append, List.not_mem_nil, or_false, List.mem_filter, List.mem_cons, bne_iff_ne, ne_eq]
        constructor
        · rintro ((h1 | h1) | h1)
          · exact .inl h1
          · subst h1; exact .inr ⟨.inl rfl, hx⟩
          · exact .inr ⟨.inr h1.1, h1.2⟩
        · rintro (h1 | ⟨h1 | h1, h2⟩)
          · exact .inl (.inl h1)
          · exact .inl (.inr h1)
          · exact .inr ⟨h1, h2⟩
    · rw [if_neg (by intro e; exact hk e.2), if_neg (by omega), show (false || decide (k ≤ x.1)) = false by rw [Bool.false_or]; exact decide_eq_false hk]
      simp only [List.nil_append, List.mem_append, List.not_mem_nil, or_false, List.mem_cons, putP_has l k v h.2 p]
      constructor
      · rintro (h1 | h1 | h1)
        · subst h1; exact .inr ⟨.inl rfl, by omega⟩
        · exact .inl h1
        · exact .inr ⟨.inr h1.1, h1.2⟩
      · rintro (h1 | ⟨h1 | h1, h2⟩)
        · exact .inr (.inl h1)
        · exact .inl h1
        · exact .inr (.inr ⟨h1, h2⟩)
theorem putP_rise : ∀ (l : List PairD) (k v : Int), RiseL l → RiseL (putP l k v false)
  | [], k, v, _ => by simp [putP, RiseL]
  | x :: l, k, v, h => by
    have h0 := h
    unfold RiseL at h
    rw [List.pairwise_cons] at h
    rw [putP_cons]
    by_cases hk : k ≤ x.1
    · rw [if_pos ⟨rfl, hk⟩, decide_eq_true hk, Bool.or_true, putP_late]
      have hl : l.filter (fun y => y.1 != k) = l := List.filter_eq_self.2 fun y hy => by have := h.1 y hy; rw [bne_iff_ne]; omega
      rw [hl]
      by_cases hx : x.1 = k
      · rw [if_pos hx]
        show List.Pairwise (fun a b : PairD => a.1 < b.1) ((k, v) :: l)
        rw [List.pairwise_cons]
        exact ⟨fun y hy => by have := h.1 y hy; simp only; omega, h.2⟩
      · rw [if_neg hx]
        show List.Pairwise (fun a b : PairD => a.1 < b.1) ((k, v) :: x :: l)
        rw [List.pairwise_cons]
        refine ⟨fun y hy => ?_, h0⟩
        rw [List.mem_cons] at hy
        rcases hy with rfl | hy
        · simp only; omega
        · have := h.1 y hy; simp only; omega
    · rw [if_neg (by intro e; exact hk e.2), if_neg (by omega), show (false || decide (k ≤ x.1)) = false by rw [Bool.false_or]; exact decide_eq_false hk]
      show List.Pairwise (fun a b : PairD => a.1 < b.1) (x :: putP l k v false)
      rw [List.pairwise_cons]
      refine ⟨fun y hy => ?_, putP_rise l k v h.2⟩
      rcases (putP_has l k v h.2 y).1 hy with rfl | hy
      · simp only; omega
      · exact h.1 y hy.1
/-- these pairs are these values, rising, and how often they stand -/
def Tally (out : List PairD) (vals : List Int) : Prop := RiseL out ∧ ∀ p, p ∈ out ↔ p.1 ∈ vals ∧ p.2 = (vals.count p.1 : Nat)
theorem Tally.nil : Tally [] [] := ⟨List.Pairwise.nil, fun p => by simp⟩
theorem Tally.get {out : List PairD} {vals : List Int} (h : Tally out vals) (k : Int) : (getP out k).1 = (vals.count k : Nat) := by
  unfold getP
  cases hf : out.find? (fun x => x.1 == k) with
  | none =>
    have h1 := List.find?_eq_none.1 hf
    have hk : k ∉ vals := fun hk => by
      have := h1 (k, (vals.count k : Nat)) ((h.2 _).2 ⟨hk, rfl⟩)
      simp at this
    rw [List.count_eq_zero_of_not_mem hk]; rfl
  | some x =>
    have h1 := List.find?_some hf
    have h2 := (h.2 x).1 (List.mem_of_find?_eq_some hf)
    have h3 : x.1 = k := by simpa using h1
    rw [← h3]; exact h2.2
theorem Tally.put {out : List PairD} {vals : List Int} (h : Tally out vals) (k : Int) : Tally (putP out k ((getP out k).1 + 1) false) (vals ++ [k]) := by
  refine ⟨putP_rise _ _ _ h.1, fun p => ?_⟩
  rw [putP_has _ _ _ h.1, h.get k, h.2]
  simp only [List.mem_append, List.mem_singleton, List.count_append]
  obtain ⟨a, b⟩ := p
  simp only [Prod.mk.injEq]
  by_cases hk : a = k
  · subst hk
    simp only [true_and, List.count_singleton_self, or_true, ne_eq, not_true, and_false, or_false]
    push_cast; rfl
  · have hc : List.count a [k] = 0 := List.count_eq_zero_of_not_mem (by simpa using hk)
    simp only [hk, false_and, false_or, ne_eq, not_false_eq_true, and_true, or_false, hc, Nat.add_zero]
theorem Tally.one {a b : List PairD} {vals : List Int} (ha : Tally a vals) (hb : Tally b vals) : a = b := rise_ext ha.1 hb.1 fun p => by rw [ha.2, hb.2]
def valsP (l : List PairD) : List Int := l.map Prod.snd
def valsV (l : List VoD) : List Int := (l.map fun d => valsP (pairsN d.map)).flatten
theorem tally_pairs : ∀ (l : List PairD) {out : List PairD} {vals : List Int}, Tally out vals → Tally (tallyP out l) (vals ++ valsP l)
  | [], out, vals, h => by simp only [tallyP, valsP, List.map_nil, List.append_nil]; exact h
  | p :: l, out, vals, h => by
    have := tally_pairs l (h.put p.2)
    simp only [tallyP]
    rw [show vals ++ valsP (p :: l) = vals ++ [p.2] ++ valsP l by simp [valsP]]
    exact this
theorem tally_vols : ∀ (l : List VoD) {out : List PairD} {vals : List Int}, Tally out vals → Tally (tallyV out l) (vals ++ valsV l)
  | [], out, vals, h => by simp only [tallyV, valsV, List.map_nil, List.flatten_nil, List.append_nil]; exact h
  | d :: l, out, vals, h => by
    have := tally_vols l (tally_pairs (pairsN d.map) h)
    simp only [tallyV]
    rw [show vals ++ valsV (d :: l) = vals ++ valsP (pairsN d.map) ++ valsV l by simp [valsV]]
    exact this
theorem counts_tally {l : List VoD} (h : mayVB l = true) : Tally (countsV l) (valsV l) := by
  unfold countsV
  rw [if_pos h]
  have := tally_vols l Tally.nil
  simpa using this
theorem valsV_snoc {l : List VoD} {k : Nat} {s : VoD} (h : l[k]? = some s) : valsV (l.take (k + 1)) = valsV (l.take k) ++ valsP (pairsN s.map) := by
  obtain ⟨hk, rfl⟩ := List.getElem?_eq_some_iff.1 h
  unfold valsV
  rw [List.take_succ_eq_append_getElem hk, List.map_append, List.flatten_append]; simp
theorem ofB_bd {n : Int} (h : ofB n = true) : 0 ≤ n ∧ n < 10000000 := by
  unfold ofB at h
  simp only [Bool.and_eq_true, decide_eq_true_eq] at h
  obtain ⟨h0, h1⟩ := h
  rw [refOf_alt h0, refMay_iff] at h1
  simp only at h1
  omega
theorem right_vals {d : VoD} (h : rightN d = true) : ∀ v ∈ valsP (pairsN d.map), 0 ≤ v ∧ v < 10000000 := by
  intro v hv
  unfold valsP at hv
  rw [List.mem_map] at hv
  obtain ⟨x, hx, rfl⟩ := hv
  unfold rightN at h
  simp only [Bool.and_eq_true, List.all_eq_true] at h
  have := h.2 x hx
  unfold pairOk at this
  simp only [Bool.and_eq_true] at this
  exact ofB_bd this.1
end Go.Proofs.Ytpcmihgfcaelfaa
namespace Go.Proofs.Ytpcmihgfcaelfaa
open Go.RowKit Go.Shelf

/-- the map that the call has made: it counts these values -/
def CMap (W : World) (b : Nat) (vals : List Int) : Prop :=
  ∃ D : DataW Unit, W.ownsMap Try.prog 3 (plainElem Try.prog 3) b vals.length D ∧ Maps.IsMap D ∧
    (∀ k, i64B k → D.atKey (.int .i64 k) (.lit (.int .i64 0)) = .lit (.int .i64 (vals.count k : Nat))) ∧ ∀ k, i64B k → Maps.has D (.int .i64 k) = decide (k ∈ vals)
theorem lit_wf {k : Int} (h : i64B k) : (Lit.int .i64 k).wf = true := by
  unfold i64B at h; simp [Lit.wf, IntKind.min, IntKind.max, IntKind.signed, IntKind.bits]; omega
theorem lit_key (k : Int) : Go.WideAt.IsKeyLit (.int .i64 k) := by trivial
theorem CMap.new (W : World) : CMap (W.alloc (.map #[] 0)) W.heap.size [] :=
  ⟨.map [], World.ownsMap_made W Try.prog 3 _, Maps.isMap_empty, fun k _ => by simp [DataW.atKey], fun k _ => by simp [Maps.has]⟩
theorem CMap.kept {W W' : World} {b : Nat} {vals : List Int} {row : Option Nat} (h : CMap W b vals) (hg : W.grownBy W' row) (hne : some b ≠ row) : CMap W' b vals := by
  obtain ⟨D, h1, h2⟩ := h
  exact ⟨D, h1.kept hg hne, h2⟩
theorem CMap.lt {W : World} {b : Nat} {vals : List Int} (h : CMap W b vals) : b < W.heap.size := by obtain ⟨D, h1, _⟩ := h; exact h1.lt
theorem cmap_put {D : DataW Unit} {vals : List Int} {k : Int} (h2 : Maps.IsMap D) (h3 : ∀ k, i64B k → D.atKey (.int .i64 k) (.lit (.int .i64 0)) = .lit (.int .i64 (vals.count k : Nat))) (h4 : ∀ k, i64B k → Maps.has D (.int .i64 k) = decide (k ∈ vals)) {W : World} {b : Nat}
    (hown : W.ownsMap Try.prog 3 (plainElem Try.prog 3) b (vals.length + 1) (D.put (.int .i64 k) (.lit (.int .i64 ((vals.count k : Nat) + 1))))) : CMap W b (vals ++ [k]) := by
  refine ⟨_, by rw [List.length_append]; exact hown, h2.put _ _, fun q hq => ?_, fun q hq => ?_⟩
  · by_cases e : q = k
    · subst e
      rw [Maps.atKey_put_same h2 (lit_key q), List.count_append, List.count_singleton_self]
      push_cast; rfl
    · rw [Maps.atKey_put_other (fun h => e (by injection h)), h3 q hq, List.count_append, List.count_eq_zero_of_not_mem (show q ∉ [k] by simpa using e), Nat.add_zero]
  · by_cases e : q = k
    · subst e
      rw [Maps.has_put_same h2 (lit_key q)]; simp
    · rw [Maps.has_put_other (fun h => e (by injection h)), h4 q hq]
      simp [e]
/-- marks of ranges among the deferred calls, from block B on -/
def Marks (B : Nat) : List Deferred → World → Prop
  | [], _ => True
  | d :: ds, W => (∃ D, B ≤ D ∧ d = { target := .collected D, args := #[] } ∧ W.heap[D]? = some (.deferred (some [])) ∧ ∀ d' ∈ ds, d'.target ≠ .collected D) ∧ Marks B ds W
theorem Marks.step {B : Nat} {W W' : World} : ∀ {ds : List Deferred}, Marks B ds W → (∀ D, B ≤ D → W.heap[D]? = some (.deferred (some [])) → W'.heap[D]? = some (.deferred (some []))) → Marks B ds W'
  | [], _, _ => trivial
  | _ :: _, ⟨⟨D, h1, h2, h3, h4⟩, h5⟩, hk => ⟨⟨D, h1, h2, hk D h1 h3, h4⟩, h5.step hk⟩
theorem Marks.below {B : Nat} {W W' : World} {ds : List Deferred} (h : Marks B ds W) (hb : Below W.heap.size W W') : Marks B ds W' :=
  h.step fun D _ hD => (hb.block D (Array.getElem?_eq_some_iff.1 hD).1).trans hD
theorem Marks.fresh {B : Nat} {W : World} {D : Nat} (hD : W.heap.size ≤ D) : ∀ {ds : List Deferred}, Marks B ds W → ∀ d' ∈ ds, d'.target ≠ .collected D
  | [], _ => fun d' h => by simp at h
  | _ :: _, ⟨⟨D', h1, h2, h3, h4⟩, h5⟩ => fun d' hd => by
    rw [List.mem_cons] at hd
    rcases hd with rfl | hd
    · subst h2
      intro e
      simp only [Target.collected.injEq] at e
      have := (Array.getElem?_eq_some_iff.1 h3).1
      omega
    · exact h5.fresh hD d' hd
/-- the world behind the return: blocks that are no cells have turned -/
def Settled (B : Nat) (W W' : World) : Prop := Below B W W' ∧ ∀ (k : Nat) (o : Obj), W.heap[k]? = some o → o.isCells = true → W'.heap[k]? = some o
theorem Settled.refl (B : Nat) (W : World) : Settled B W W := ⟨Below.refl _ _, fun _ _ h _ => h⟩
theorem marks_leave {B n : Nat} {P : Program} {fn : Func} {tmps : Array Value} {R : Ending → World → Prop} : ∀ {ds : List Deferred} {W : World}, Marks B ds W → (∀ W', Settled B W W' → ∃ v, (results fn tmps).run P W' = .ok v W' ∧ R (.returned v) W') →
    LeavesInM Fence.wide n P fn tmps R ds .returning W
  | [], W, _, h => h W (Settled.refl B W)
  | d :: ds, W, ⟨⟨D, h1, h2, h3, h4⟩, h5⟩, h => by
    subst h2
    refine ⟨by simp, .inl ⟨D, _, rfl, run_takeDeferred h3, ?_⟩⟩
    refine marks_leave (B := B) (marks_put h4 h5) fun W' hs => ?_
    refine h W' ⟨?_, fun k o hk hc => ?_⟩
    · refine Below.trans ?_ hs.1
      have hg : W.grownBy (W.putObj D (.deferred none)) (some D) := grownBy_putObj' _ _ _
      exact ⟨hg.os, hg.tape, hg.output, hg.size, fun k hk => World.putObj_heap_other (by omega)⟩
    · refine hs.2 k o ((World.putObj_heap_other (fun e => ?_)).trans hk) hc
      rw [e, h3] at hk; cases hk; cases hc
where
  marks_put {B : Nat} {W : World} {D : Nat} {o : Obj} : ∀ {ds : List Deferred}, (∀ d' ∈ ds, d'.target ≠ .collected D) → Marks B ds W → Marks B ds (W.putObj D o)
  | [], _, _ => trivial
  | d :: ds, hn, ⟨⟨D', h1, h2, h3, h4⟩, h5⟩ => ⟨⟨D', h1, h2, (World.putObj_heap_other (fun e => by
      refine hn d (by simp) ?_
      rw [h2, e])).trans h3, h4⟩, marks_put (fun d' hd => hn d' (by simp [hd])) h5⟩
/-- the rounds of the inner range -/
structure CtInv (W0 : World) (B : Nat) (vals : List Int) (M : Nat → Prop) (pre : List PairD) (W : World) : Prop where
  map : CMap W B (vals ++ valsP pre)
  m1 : ¬ M B
  old : ∀ k, k < W0.heap.size → k ≠ B → W.heap[k]? = W0.heap[k]?
  below : Below B W0 W
theorem CtInv.kept {W0 : World} {B : Nat} {vals : List Int} {M M' : Nat → Prop} {pre : List PairD} {A C : World} {row : Option Nat} (h : CtInv W0 B vals M pre A) (hB : B < W0.heap.size) (hg : A.grownBy C row) (hr : ∀ r, row = some r → W0.heap.size ≤ r) (hn : New M M' A C) : CtInv W0 B vals M' pre C := by
  have hne : ∀ k, k < W0.heap.size → some k ≠ row := fun k hk e => by have := hr k e.symm; omega
  have hsz := h.below.size
  refine ⟨h.map.kept hg (hne B hB), fun hm => ?_, fun k hk hk2 => (hg.block k (by omega) (hne k hk)).trans (h.old k hk hk2), below_row h.below (by omega) hg (fun b hb => hne b (by omega))⟩
  rcases hn _ hm with hm | hm
  · exact h.m1 hm
  · omega
end Go.Proofs.Ytpcmihgfcaelfaa
