/- Rows of elements of several cells that a call owns: stores, copies, what is cut and cleared. No program in sight. -/
import Derived.Test.YtgabifkechofnaaDoorOwn
import Derived.Lib.AppendZeros
import Derived.Laws.CopyOwn
import Derived.Lib.AppendZerosOnto
import Derived.Lib.Overlaps
import Derived.Laws.Externs
namespace Go.Proofs.YtgabifkechofnaaDoor
open Go.RowKit

/-- a slice value and the cells behind it -/
def SrcAt (w : World) (p : Option Addr) (n k : Nat) (xs : List Value) : Prop :=
  xs.length = n * k ∧ (p = none → n = 0) ∧ (∀ u ∈ xs, u.oneCell' = true) ∧ ∀ a, p = some a → ∀ j u, xs[j]? = some u → w.cell? (a.add j) = some u
theorem SrcAt.stays {w w' : World} {p : Option Addr} {n k : Nat} {xs : List Value} (h : SrcAt w p n k xs) (hb : Below w.heap.size w w') : SrcAt w' p n k xs :=
  ⟨h.1, h.2.1, h.2.2.1, fun a ha j u hu => (hb.cell (World.block_lt_of_cell? w _ (h.2.2.2 a ha j u hu))).trans (h.2.2.2 a ha j u hu)⟩

theorem own_block {w : World} {B : Nat} {e : TypeId} {k n g cap : Nat} {xs : List Value} (h : w.ownsRow B e k (.slice (some ⟨g, 0, none⟩) n cap) n xs) :
    ∃ cur : Array Value, w.heap[g]? = some (.cells cur e (0, 0)) ∧ B ≤ g ∧ n ≤ cap ∧ cap ≤ maxLen ∧ cur.size = cap * k ∧ cur.toList.take (n * k) = xs := by
  rcases h.2 with ⟨h1, _⟩ | ⟨g', cap', cur, h1, h2, h3, h4, h5, h6, h7⟩
  · cases h1
  · injection h1 with a b c
    injection a with a; injection a with a _
    subst a; subst c
    exact ⟨cur, h3, h2, h4, h5, h6, h7⟩
/-- a store into a cell of the row -/
theorem ow_set {w : World} {B : Nat} {e : TypeId} {k n g cap : Nat} {xs : List Value} (h : w.ownsRow B e k (.slice (some ⟨g, 0, none⟩) n cap) n xs) (j : Nat) (u : Value) (_hj : j < xs.length) :
    (w.setCell ⟨g, j, none⟩ u).ownsRow B e k (.slice (some ⟨g, 0, none⟩) n cap) n (xs.set j u) := by
  obtain ⟨cur, h3, h2, h4, h5, h6, h7⟩ := own_block h
  refine ⟨by rw [List.length_set]; exact h.1, .inr ⟨g, cap, cur.setIfInBounds j u, rfl, h2, ?_, h4, h5, by simpa using h6, ?_⟩⟩
  · rw [setCell_eq_setRow w g j cur e (0, 0) u h3]; exact setRow_heap w g cur _ e _ h3
  · rw [Array.toList_setIfInBounds, List.take_set, h7]
/-- .. of which the row's cells may be written -/
theorem ow_free {w : World} {B : Nat} {e : TypeId} {k n g cap : Nat} {xs : List Value} (h : w.ownsRow B e k (.slice (some ⟨g, 0, none⟩) n cap) n xs) (j : Nat) : w.frozen? ⟨g, j, none⟩ = false := by
  obtain ⟨cur, h3, _⟩ := own_block h
  simp [World.frozen?, h3]
theorem ow_slice {w : World} {B : Nat} {e : TypeId} {k n : Nat} {v : Value} {xs : List Value} (h : w.ownsRow B e k v n xs) : v = .slice none 0 0 ∧ n = 0 ∧ xs = [] ∨ ∃ g cap, v = .slice (some ⟨g, 0, none⟩) n cap := by
  rcases h.2 with ⟨h1, h2⟩ | ⟨g, cap, cur, h1, _⟩
  · exact .inl ⟨h1, h2, List.eq_nil_of_length_eq_zero (by rw [h.1, h2, Nat.zero_mul])⟩
  · exact .inr ⟨g, cap, h1⟩
theorem ow_src {w : World} {B : Nat} {e : TypeId} {k n : Nat} {v : Value} {xs : List Value} (h : w.ownsRow B e k v n xs) (h1 : ∀ u ∈ xs, u.oneCell' = true) : ∃ p c, v = .slice p n c ∧ n ≤ c ∧ c ≤ maxLen ∧ SrcAt w p n k xs := by
  rcases ow_slice h with ⟨hv, hn, hx⟩ | ⟨g, cap, hv⟩
  · subst hn; subst hx
    exact ⟨none, 0, hv, Nat.le_refl _, Nat.zero_le _, by simp, fun _ => rfl, by simp, by simp⟩
  · subst hv
    obtain ⟨cur, _, _, h4, h5, _⟩ := own_block h
    refine ⟨_, cap, rfl, h4, h5, h.1, (fun e => by cases e), h1, fun a ha j u hu => ?_⟩
    cases ha
    have hj : j < xs.length := (List.getElem?_eq_some_iff.1 hu).1
    have := ow_cell h j hj
    rw [ow_at, this, ← hu, List.getElem?_eq_getElem hj]

theorem grown_of_below {w w' : World} (h : Below w.heap.size w w') (row : Option Nat) : w.grownBy w' row := ⟨h.os, h.tape, h.output, h.size, fun k hk _ => h.block k hk⟩
theorem grown_setCell (w : World) (g j : Nat) (u : Value) : w.grownBy (w.setCell ⟨g, j, none⟩ u) (some g) :=
  ⟨rfl, rfl, rfl, by simp, fun k _ hk => Below.heap_setCell _ _ _ k (fun e => hk (by rw [e]))⟩
theorem grown_setRow (w : World) (g : Nat) (c : Array Value) : w.grownBy (w.setRow g c) (some g) :=
  ⟨rfl, rfl, rfl, by simp [World.setRow], fun k _ hk => setRow_other w g k c (fun e => hk (by rw [e]))⟩
theorem grown_trans {A B C : World} {row : Option Nat} (h : A.grownBy B row) (k : B.grownBy C row) : A.grownBy C row :=
  ⟨k.os.trans h.os, k.tape.trans h.tape, k.output.trans h.output, Nat.le_trans h.size k.size, fun i hi hne => (k.block i (Nat.lt_of_lt_of_le hi h.size) hne).trans (h.block i hi hne)⟩
theorem grown_refl (w : World) (row : Option Nat) : w.grownBy w row := ⟨rfl, rfl, rfl, Nat.le_refl _, fun _ _ _ => rfl⟩
theorem grown_drew {A B : World} {row : Option Nat} (h : A.grownBy B row) (n : Nat) : A.grownBy (B.drewN n) row := ⟨h.os, h.tape, h.output, h.size, h.block⟩
theorem below_of_grown {w w' : World} {row : Option Nat} {B : Nat} (h : w.grownBy w' row) (hB : B ≤ w.heap.size) (hr : ∀ k, row = some k → B ≤ k) : Below B w w' :=
  ⟨h.os, h.tape, h.output, h.size, fun k hk => h.block k (Nat.lt_of_lt_of_le hk hB) (fun e => by have := hr k e.symm; omega)⟩

section
variable {α : Type}
/-- rows of k cells each, laid one behind the other -/
def AllLen (k : Nat) (L : List (List α)) : Prop := ∀ l ∈ L, l.length = k
theorem flat_length {k : Nat} : ∀ {L : List (List α)}, AllLen k L → L.flatten.length = L.length * k
  | [], _ => by simp
  | l :: L, h => by
    rw [List.flatten_cons, List.length_append, flat_length (fun x hx => h x (by simp [hx])), h l (by simp), List.length_cons, Nat.add_mul, Nat.one_mul, Nat.add_comm]
theorem flat_take {k : Nat} : ∀ {L : List (List α)} (i : Nat), AllLen k L → L.flatten.take (i * k) = (L.take i).flatten
  | [], i, _ => by simp
  | l :: L, 0, _ => by simp
  | l :: L, i + 1, h => by
    have hl := h l (by simp)
    rw [List.flatten_cons, List.take_succ_cons, List.flatten_cons, ← flat_take i (fun x hx => h x (by simp [hx])), Nat.add_mul, Nat.one_mul, List.take_append, hl]
    rw [List.take_of_length_le (by rw [hl]; omega), Nat.add_sub_cancel]
theorem flat_drop {k : Nat} : ∀ {L : List (List α)} (i : Nat), AllLen k L → L.flatten.drop (i * k) = (L.drop i).flatten
  | [], i, _ => by simp
  | l :: L, 0, _ => by simp
  | l :: L, i + 1, h => by
    have hl := h l (by simp)
    rw [List.flatten_cons, List.drop_succ_cons, ← flat_drop i (fun x hx => h x (by simp [hx])), Nat.add_mul, Nat.one_mul, List.drop_append, hl]
    rw [List.drop_of_length_le (by rw [hl]; omega), Nat.add_sub_cancel, List.nil_append]
theorem flat_get {k : Nat} {L : List (List α)} (h : AllLen k L) {i r : Nat} {l : List α} (hl : L[i]? = some l) (hr : r < k) : L.flatten[i * k + r]? = l[r]? := by
  have h1 : L.flatten[i * k + r]? = (L.flatten.drop (i * k))[r]? := by rw [List.getElem?_drop]
  obtain ⟨hi, hx⟩ := List.getElem?_eq_some_iff.1 hl
  rw [h1, flat_drop i h, List.drop_eq_getElem_cons hi, hx, List.flatten_cons, List.getElem?_append_left (by rw [h l (by rw [← hx]; exact List.getElem_mem hi)]; exact hr)]
theorem flat_set {k : Nat} : ∀ {L : List (List α)} {i r : Nat} {l : List α} (u : α), AllLen k L → L[i]? = some l → r < k → L.flatten.set (i * k + r) u = (L.set i (l.set r u)).flatten
  | [], i, r, l, u, _, hl, _ => by simp at hl
  | l0 :: L, 0, r, l, u, h, hl, hr => by
    simp only [List.getElem?_cons_zero, Option.some.injEq] at hl
    subst hl
    rw [Nat.zero_mul, Nat.zero_add, List.flatten_cons, List.set_cons_zero, List.flatten_cons, List.set_append_left _ _ (by rw [h l0 (by simp)]; exact hr)]
  | l0 :: L, i + 1, r, l, u, h, hl, hr => by
    have h0 := h l0 (by simp)
    rw [List.flatten_cons, List.set_cons_succ, List.flatten_cons, ← flat_set u (fun x hx => h x (by simp [hx])) (by simpa using hl) hr, List.set_append_right _ _ (by rw [h0, Nat.add_mul]; omega), h0]
    congr 2
    rw [Nat.add_mul]; omega
end

/-- copy into a row that is known whole, elements of k cells -/
theorem run_copy_k {P : Program} (w : World) (dT sT ty elem : TypeId) (k g o dLen dCap : Nat) (a : Addr) (sLen sCap m : Nat) (cur : Array Value) (t : TypeId) (cs : List Value)
    (hu : P.underlying dT = some (.slice elem)) (hs : (P.info? elem).map (·.size) = some k)
    (hg : w.heap[g]? = some (.cells cur t (0, 0))) (hm : Nat.min sLen dLen = m) (hn : cs.length = m * k)
    (hsrc : ∀ j v, cs[j]? = some v → w.cell? (a.add j) = some v) (hfit : o + cs.length ≤ cur.size) (h1 : ∀ v ∈ cs, v.oneCell' = true) :
    (Builtin.copy_ #[dT, sT] ty #[.slice (some ⟨g, o, none⟩) dLen dCap, .slice (some a) sLen sCap]).run P w =
      .ok (goInt m) (w.setRow g (cur.toList.take o ++ cs ++ cur.toList.drop (o + cs.length)).toArray) := by
  have hl := run_loadCells_list (P := P) w a cs hsrc
  have hst := run_storeCells_at P g o t cs 0 cur w hg (by simpa using hfit) h1
  cases hq : P.info? elem with
  | none => simp [hq] at hs
  | some i =>
    have hi : i.size = k := by simpa [hq] using hs
    simp [Builtin.copy_, run_underlying hu, Builtin.lenOf, Builtin.firstCells, sizeOf, typeInfo, hq, hi, hm, ← hn, hl, hst]

theorem wp_copy_runM {P : Program} (w : World) {o : Oper} {a : Act} {K : Act → World → Prop} {Q : Exit → Act → World → Prop} (d s : Operand) (t t' : TypeId)
    (ho : o.op = .call { callee := .builtin .copy, args := #[d, s], argTypes := #[t, t'] }) (v u : Value) (hd : a.eval d = v) (hs : a.eval s = u) {v' : Value} {w' : World}
    (hr : (Builtin.copy_ #[t, t'] o.type #[v, u]).run P w = .ok v' w') (h : K (a.put o.dst v') w') : o.wp P a w K Q := by
  unfold Oper.wp execOp
  simp only [ho, resolve, invoke, builtin, Sem.run_bind, Sem.run_pure, Result.andThen_ok, List.map_toArray, List.map_cons, List.map_nil, hd, hs, hr]
  exact h
theorem wpList_copy_runM {P : Program} (w : World) {ops : Array Oper} {rest : List Oper} {o : Oper} {a : Act} {Q : Exit → Act → World → Prop} (hgd : o.guard = none) (d s : Operand) (t t' : TypeId)
    (ho : o.op = .call { callee := .builtin .copy, args := #[d, s], argTypes := #[t, t'] }) (v u : Value) (hd : a.eval d = v) (hs : a.eval s = u) {v' : Value} {w' : World}
    (hr : (Builtin.copy_ #[t, t'] o.type #[v, u]).run P w = .ok v' w') (h : wpList P ops Q rest (a.put o.dst v') w') : wpList P ops Q (o :: rest) a w :=
  wpList_plain hgd fun _ hK => wp_copy_runM w d s t t' ho v u hd hs hr (hK _ _ h)
theorem step_copy_runM {P : Program} {ops : Array Oper} {o : Oper} {a : Act} {w : World} {K : Act → World → Prop} {Q : Exit → Act → World → Prop} {E : Prop}
    (hg : o.guard = none) (d x : Operand) (dT sT : TypeId) (hop : o.op = Op.call { callee := Callee.builtin Builtin.copy, args := #[d, x], argTypes := #[dT, sT] })
    (v u : Value) (hd : a.eval d = v) (hx : a.eval x = u) {v' : Value} {w' : World} (hr : (Builtin.copy_ #[dT, sT] o.type #[v, u]).run P w = .ok v' w') (hK : K (a.put o.dst v') w') :
    if Region.wanted o (yielded ops a.tmps) = true then Oper.wp P o a w K Q else E := by
  have hw : Region.wanted o (yielded ops a.tmps) = true := by simp [Region.wanted, hg]
  rw [if_pos hw]
  unfold Oper.wp
  simp [execOp, hop, resolve, invoke, builtin, hd, hx, hr, Result.andThen]
  exact hK
theorem new_at {W : World} {o : Obj} {nb : Nat} (h : nb = W.heap.size) : (W.alloc o).heap[nb]? = some o := by subst h; exact World.alloc_heap_new W o
/-- clear of elements of k cells, in a row that is known whole -/
theorem run_clear_k {P : Program} (w : World) (t ty e : TypeId) (z : Value) (g o n c : Nat) (cur : Array Value) (te : TypeId) (ht : P.underlying t = some (.slice e)) (hz : ∀ w, (zeroValue e).run P w = .ok z w)
    (hg : w.heap[g]? = some (.cells cur te (0, 0))) (hn : 0 < n) (hfit : o + n * z.cells.size ≤ cur.size) (h1 : ∀ u ∈ (Builtin.zeroCells z.cells n).toList, u.oneCell' = true) :
    (Builtin.clear_ #[t] ty #[.slice (some ⟨g, o, none⟩) n c]).run P w = .ok (.tuple #[]) (w.setRow g (cur.toList.take o ++ (Builtin.zeroCells z.cells n).toList ++ cur.toList.drop (o + (Builtin.zeroCells z.cells n).toList.length)).toArray) := by
  have hl : (Builtin.zeroCells z.cells n).toList.length = n * z.cells.size := by rw [Array.length_toList, size_zeroCells]
  have hst := run_storeCells_at P g o te (Builtin.zeroCells z.cells n).toList 0 cur w hg (by rw [hl]; simpa using hfit) h1
  obtain ⟨m, rfl⟩ : ∃ m, n = m + 1 := ⟨n - 1, by omega⟩
  simp only [Nat.add_zero] at hst
  simp [Builtin.clear_, run_underlying ht, hz, hst]
/-- the row cut to its first i elements, behind which something else of the same length is laid -/
theorem ow_cleared {w : World} {B : Nat} {e : TypeId} {k n g cap : Nat} {xs : List Value} (h : w.ownsRow B e k (.slice (some ⟨g, 0, none⟩) n cap) n xs) (i : Nat) (hi : i ≤ n) :
    ∃ cur : Array Value, w.heap[g]? = some (.cells cur e (0, 0)) ∧ cur.size = cap * k ∧ n ≤ cap ∧ ∀ zs : List Value, zs.length = (n - i) * k →
      ∀ W : World, W.heap = w.heap → (W.setRow g (cur.toList.take (i * k) ++ zs ++ cur.toList.drop (i * k + zs.length)).toArray).ownsRow B e k (.slice (some ⟨g, 0, none⟩) i cap) i (xs.take (i * k)) := by
  obtain ⟨cur, h3, h2, h4, h5, h6, h7⟩ := own_block h
  refine ⟨cur, h3, h6, h4, fun zs hz W hW => ?_⟩
  have hcl : cur.toList.length = cap * k := by simp [h6]
  have e1 : i * k ≤ n * k := Nat.mul_le_mul_right k hi
  have e2 : n * k ≤ cap * k := Nat.mul_le_mul_right k h4
  have e3 : (n - i) * k = n * k - i * k := Nat.sub_mul _ _ _
  refine ⟨by rw [List.length_take, h.1]; omega, .inr ⟨g, cap, _, rfl, h2, setRow_heap _ _ _ _ _ _ (by rw [hW]; exact h3), by omega, h5, ?_, ?_⟩⟩
  · rw [List.size_toArray, List.length_append, List.length_append, List.length_take, List.length_drop, hcl]; omega
  · rw [List.toList_toArray, List.append_assoc, List.take_append_of_le_length (by rw [List.length_take, hcl]; omega), List.take_take, Nat.min_self, ← h7, List.take_take]
    congr 1; omega
theorem step_append_runM {P : Program} {ops : Array Oper} {o : Oper} {a : Act} {w : World} {K : Act → World → Prop} {Q : Exit → Act → World → Prop} {E : Prop}
    (hg : o.guard = none) (d x : Operand) (dT sT : TypeId) (hop : o.op = Op.call { callee := Callee.builtin Builtin.append, args := #[d, x], argTypes := #[dT, sT] })
    (v u : Value) (hd : a.eval d = v) (hx : a.eval x = u) {v' : Value} {w' : World} (hr : (Builtin.append_ #[dT, sT] o.type #[v, u]).run P w = .ok v' w') (hK : K (a.put o.dst v') w') :
    if Region.wanted o (yielded ops a.tmps) = true then Oper.wp P o a w K Q else E := by
  have hw : Region.wanted o (yielded ops a.tmps) = true := by simp [Region.wanted, hg]
  rw [if_pos hw]
  exact Lib.wp_append_run w d x dT sT hop v u hd hx v' w' hr hK
end Go.Proofs.YtgabifkechofnaaDoor
