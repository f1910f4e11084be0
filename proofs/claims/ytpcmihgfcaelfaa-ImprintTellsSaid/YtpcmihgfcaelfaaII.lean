/- Nodes of the call's own: the box of one, a row of many. · A share of a row: where it lies. · An append whose run is known, as one step of a region that draws. · A box whose keys and kids both grow. -/
import Derived.Test.YtpcmihgfcaelfaaIC
import Derived.Test.YtpcmihgfcaelfaaIH
import Derived.Deep.RegionLaw
namespace Go.Proofs.Ytpcmihgfcaelfaa
open Go.RowKit

/-- the box of a node -/
def NdBlk (W : World) (B : Nat) (x y z : Value) : Prop := W.heap[B]? = some (.cells #[x, y, z] 43 (0, 0))
theorem NdBlk.lt {W : World} {B : Nat} {x y z : Value} (h : NdBlk W B x y z) : B < W.heap.size := (Array.getElem?_eq_some_iff.1 h).1
theorem NdBlk.cells {W : World} {B : Nat} {x y z : Value} (h : NdBlk W B x y z) : W.cell? ⟨B, 0, none⟩ = some x ∧ W.cell? ⟨B, 1, none⟩ = some y ∧ W.cell? ⟨B, 2, none⟩ = some z := by
  simp [World.cell?, show W.heap[B]? = _ from h]
theorem NdBlk.frozen {W : World} {B : Nat} {x y z : Value} (h : NdBlk W B x y z) (j : Nat) : W.frozen? ⟨B, j, none⟩ = false := by simp [World.frozen?, show W.heap[B]? = _ from h]
theorem NdBlk.set0 {W : World} {B : Nat} {x y z : Value} (v : Value) (h : NdBlk W B x y z) : NdBlk (W.setCell ⟨B, 0, none⟩ v) B v y z := by
  obtain ⟨hlt, hk⟩ := Array.getElem?_eq_some_iff.1 h
  show (W.heap.modify B _)[B]? = _
  rw [Array.getElem?_eq_getElem (by rw [Array.size_modify]; exact hlt), Array.getElem_modify_self, hk]
  rfl
theorem NdBlk.set1 {W : World} {B : Nat} {x y z : Value} (v : Value) (h : NdBlk W B x y z) : NdBlk (W.setCell ⟨B, 1, none⟩ v) B x v z := by
  obtain ⟨hlt, hk⟩ := Array.getElem?_eq_some_iff.1 h
  show (W.heap.modify B _)[B]? = _
  rw [Array.getElem?_eq_getElem (by rw [Array.size_modify]; exact hlt), Array.getElem_modify_self, hk]
  rfl
theorem NdBlk.set2 {W : World} {B : Nat} {x y z : Value} (v : Value) (h : NdBlk W B x y z) : NdBlk (W.setCell ⟨B, 2, none⟩ v) B x y v := by
  obtain ⟨hlt, hk⟩ := Array.getElem?_eq_some_iff.1 h
  show (W.heap.modify B _)[B]? = _
  rw [Array.getElem?_eq_getElem (by rw [Array.size_modify]; exact hlt), Array.getElem_modify_self, hk]
  rfl
theorem NdBlk.new (W : World) (x y z : Value) : NdBlk (W.alloc (.cells #[x, y, z] 43)) W.heap.size x y z := World.alloc_heap_new _ _
theorem NdBlk.below {W W' : World} {B : Nat} {x y z : Value} (h : NdBlk W B x y z) (hb : Below W.heap.size W W') : NdBlk W' B x y z := (hb.block B h.lt).trans h
theorem NdBlk.low {W W' : World} {B D : Nat} {x y z : Value} (h : NdBlk W B x y z) (hb : Below D W W') (hD : B < D) : NdBlk W' B x y z := (hb.block B hD).trans h
theorem own_set {W : World} {B D j : Nat} {e : TypeId} {k n : Nat} {v u : Value} {xs : List Value} (h : W.ownsRow D e k v n xs) (hD : B < D) : (W.setCell ⟨B, j, none⟩ u).ownsRow D e k v n xs :=
  h.kept (grown_set W B j u) (.inr fun e => by have := (h.lt _ e).1; omega)
theorem below_set {W W' : World} {B j : Nat} {u : Value} (h : Below B W W') : Below B W (W'.setCell ⟨B, j, none⟩ u) := set_below h j u
theorem int_append3 (W : World) (B n : Nat) (v : Value) (l : List Int) (x : Int) (hown : W.ownsRow B 3 1 v n (intVs l)) (hn : n ≤ 1000000) (hB : B ≤ W.heap.size) :
    ∃ g cap w2, (Builtin.append_ #[40, 40] 40 #[v, .slice (some ⟨W.heap.size, 0, none⟩) 1 1]).run Try.prog (W.alloc (.cells #[.int .i64 x] 3)) = .ok (.slice (some ⟨g, 0, none⟩) (n + 1) cap) w2 ∧
      w2.ownsRow B 3 1 (.slice (some ⟨g, 0, none⟩) (n + 1) cap) (n + 1) (intVs (l ++ [x])) ∧ Below B W w2 ∧ Others W w2 v (.slice (some ⟨g, 0, none⟩) (n + 1) cap) ∧ ∀ a u, W.cell? a = some u → some a.block ≠ v.ownBlock → w2.cell? a = some u := by
  obtain ⟨i0, hi0, hz0, hz1, hz2⟩ := info_parts infoI
  obtain ⟨v', w', h1, h2, h3, _, h5⟩ := run_append_own_at (P := Try.prog) (W.alloc (.cells #[.int .i64 x] 3)) B 40 40 3 i0 (.int .i64 0) 1 8 Try.underlying40 hi0 hz0 hz1 hz2 rfl (by decide) v n _ (hown.alloc _) ⟨W.heap.size, 0, none⟩ 1 1 [.int .i64 x] rfl (by
      intro j u hu
      rw [ow_at, World.cell?_alloc_at _ _ _ _ rfl]
      rcases j with _ | j
      · exact hu
      · simp at hu) (by intro u hu; simp only [List.mem_cons, List.not_mem_nil, or_false] at hu; subst hu; rfl) (by unfold maxLen; omega) (by omega) (by simp; omega)
  obtain ⟨g, cap, rfl⟩ := ownsRow_succ h2
  refine ⟨g, cap, w', h1, ?_, ow_grown (Below.refl _ _) hB hown h3, others_of (fun B' e' k' u m ys h => h.alloc _) h3 h5, fun a u hu hne => h3.cell (cell_stays ((Below.refl _ _).alloc (Nat.le_refl _) _) hu) hne⟩
  unfold intVs at *; rw [List.map_append]; exact h2
/-- one int more behind the keys of a box -/
theorem push_key {W : World} {B n : Nat} {kv y z : Value} {ks : List Int} (x : Int) (hbox : NdBlk W B kv y z) (hk : W.ownsRow (B + 1) 3 1 kv n (intVs ks)) (hn : n ≤ 1000000) :
    ∃ g cap w2, (Builtin.append_ #[40, 40] 40 #[kv, .slice (some ⟨W.heap.size, 0, none⟩) 1 1]).run Try.prog (W.alloc (.cells #[.int .i64 x] 3)) = .ok (.slice (some ⟨g, 0, none⟩) (n + 1) cap) w2 ∧ NdBlk w2 B kv y z ∧
      NdBlk (w2.setCell ⟨B, 0, none⟩ (.slice (some ⟨g, 0, none⟩) (n + 1) cap)) B (.slice (some ⟨g, 0, none⟩) (n + 1) cap) y z ∧
      (w2.setCell ⟨B, 0, none⟩ (.slice (some ⟨g, 0, none⟩) (n + 1) cap)).ownsRow (B + 1) 3 1 (.slice (some ⟨g, 0, none⟩) (n + 1) cap) (n + 1) (intVs (ks ++ [x])) ∧
      Below B W (w2.setCell ⟨B, 0, none⟩ (.slice (some ⟨g, 0, none⟩) (n + 1) cap)) ∧
      (∀ (u : Value) (m : Nat) (ys : List Int), W.ownsRow (B + 1) 3 1 u m (intVs ys) → Apart u kv → (w2.setCell ⟨B, 0, none⟩ (.slice (some ⟨g, 0, none⟩) (n + 1) cap)).ownsRow (B + 1) 3 1 u m (intVs ys) ∧ Apart u (.slice (some ⟨g, 0, none⟩) (n + 1) cap) ∧ Apart (.slice (some ⟨g, 0, none⟩) (n + 1) cap) u) ∧
      (∀ a u, W.cell? a = some u → some a.block ≠ kv.ownBlock → w2.cell? a = some u ∧ (a.block ≠ B → (w2.setCell ⟨B, 0, none⟩ (.slice (some ⟨g, 0, none⟩) (n + 1) cap)).cell? a = some u)) := by
  obtain ⟨g, cap, w2, h1, h2, h3, h4, h5⟩ := int_append3 W (B + 1) n kv ks x hk hn hbox.lt
  have hbox2 := hbox.low h3 (Nat.lt_succ_self _)
  exact ⟨g, cap, w2, h1, hbox2, hbox2.set0 _, own_set h2 (Nat.lt_succ_self _), below_set (below_low h3 (Nat.le_succ _)), fun u m ys hu ha => ⟨own_set (h4 _ _ _ _ _ _ hu ha).1 (Nat.lt_succ_self _), (h4 _ _ _ _ _ _ hu ha).2⟩, fun a u hu hne => ⟨h5 a u hu hne, fun hB => (grown_set _ _ _ _).cell (h5 a u hu hne) (fun e => hB (by injection e))⟩⟩
theorem push_val {W : World} {B n : Nat} {kv y z : Value} {ks : List Int} (x : Int) (hbox : NdBlk W B y kv z) (hk : W.ownsRow (B + 1) 3 1 kv n (intVs ks)) (hn : n ≤ 1000000) :
    ∃ g cap w2, (Builtin.append_ #[40, 40] 40 #[kv, .slice (some ⟨W.heap.size, 0, none⟩) 1 1]).run Try.prog (W.alloc (.cells #[.int .i64 x] 3)) = .ok (.slice (some ⟨g, 0, none⟩) (n + 1) cap) w2 ∧ NdBlk w2 B y kv z ∧
      NdBlk (w2.setCell ⟨B, 1, none⟩ (.slice (some ⟨g, 0, none⟩) (n + 1) cap)) B y (.slice (some ⟨g, 0, none⟩) (n + 1) cap) z ∧
      (w2.setCell ⟨B, 1, none⟩ (.slice (some ⟨g, 0, none⟩) (n + 1) cap)).ownsRow (B + 1) 3 1 (.slice (some ⟨g, 0, none⟩) (n + 1) cap) (n + 1) (intVs (ks ++ [x])) ∧
      Below B W (w2.setCell ⟨B, 1, none⟩ (.slice (some ⟨g, 0, none⟩) (n + 1) cap)) ∧
      (∀ (u : Value) (m : Nat) (ys : List Int), W.ownsRow (B + 1) 3 1 u m (intVs ys) → Apart u kv → (w2.setCell ⟨B, 1, none⟩ (.slice (some ⟨g, 0, none⟩) (n + 1) cap)).ownsRow (B + 1) 3 1 u m (intVs ys) ∧ Apart u (.slice (some ⟨g, 0, none⟩) (n + 1) cap) ∧ Apart (.slice (some ⟨g, 0, none⟩) (n + 1) cap) u) ∧
      (∀ a u, W.cell? a = some u → some a.block ≠ kv.ownBlock → w2.cell? a = some u ∧ (a.block ≠ B → (w2.setCell ⟨B, 1, none⟩ (.slice (some ⟨g, 0, none⟩) (n + 1) cap)).cell? a = some u)) := by
  obtain ⟨g, cap, w2, h1, h2, h3, h4, h5⟩ := int_append3 W (B + 1) n kv ks x hk hn hbox.lt
  have hbox2 := hbox.low h3 (Nat.lt_succ_self _)
  exact ⟨g, cap, w2, h1, hbox2, hbox2.set1 _, own_set h2 (Nat.lt_succ_self _), below_set (below_low h3 (Nat.le_succ _)), fun u m ys hu ha => ⟨own_set (h4 _ _ _ _ _ _ hu ha).1 (Nat.lt_succ_self _), (h4 _ _ _ _ _ _ hu ha).2⟩, fun a u hu hne => ⟨h5 a u hu hne, fun hB => (grown_set _ _ _ _).cell (h5 a u hu hne) (fun e => hB (by injection e))⟩⟩

def ndCs (r : Value × Value × Value) : List Value := [r.1, r.2.1, r.2.2]
def ndRows (l : List (NodeD × (Value × Value × Value))) : List Value := (l.map fun x => ndCs x.2).flatten
theorem ndRows_snoc (l : List (NodeD × (Value × Value × Value))) (x : NodeD × (Value × Value × Value)) : ndRows (l ++ [x]) = ndRows l ++ ndCs x.2 := by unfold ndRows; rw [List.map_append, List.flatten_append]; simp
theorem ndRows_len (l : List (NodeD × (Value × Value × Value))) : (ndRows l).length = l.length * 3 := by
  induction l with
  | nil => rfl
  | cons a l ih =>
    unfold ndRows ndCs at ih ⊢
    simp only [List.map_cons, List.flatten_cons, List.length_append, List.length_cons, List.length_nil, ih]; omega
theorem ndRows_cell (l : List (NodeD × (Value × Value × Value))) : ∀ (i : Nat) x, l[i]? = some x → ∀ j u, (ndCs x.2)[j]? = some u → (ndRows l)[i * 3 + j]? = some u := by
  induction l with
  | nil => intro i x h; simp at h
  | cons a l ih =>
    intro i x h j u hj
    have e : ndRows (a :: l) = ndCs a.2 ++ ndRows l := by unfold ndRows; simp
    have e5 : (ndCs a.2).length = 3 := rfl
    rw [e]
    cases i with
    | zero =>
      simp only [List.getElem?_cons_zero, Option.some.injEq] at h; subst h
      have hj2 := (List.getElem?_eq_some_iff.1 hj).1
      rw [Nat.zero_mul, Nat.zero_add, List.getElem?_append_left hj2]; exact hj
    | succ i =>
      rw [List.getElem?_cons_succ] at h
      rw [List.getElem?_append_right (by omega), e5, show (i + 1) * 3 + j - 3 = i * 3 + j by omega]
      exact ih i x h j u hj
/-- a row of nodes that lies from D on; its trees lie from B on, and elsewhere -/
def OwnNds (w : World) (B D : Nat) (v : Value) (l : List NodeD) : Prop :=
  ∃ xs : List (NodeD × (Value × Value × Value)), xs.map Prod.fst = l ∧ w.ownsRow D 43 3 v l.length (ndRows xs) ∧ ∀ x ∈ xs, NodeAt (mask (OwnF2 B v w) w) x.1 x.2.1 x.2.2.1 x.2.2.2
/-- the world's blocks from B on, below D -/
def OwnLt (B D : Nat) (W : World) : Nat → Prop := fun b => OwnF B W b ∧ b < D
theorem OwnNds.shape {w : World} {B D : Nat} {v : Value} {l : List NodeD} (h : OwnNds w B D v l) : ∃ p c, v = .slice p l.length c ∧ l.length ≤ c ∧ c ≤ maxLen ∧ ∀ k, v.ownBlock = some k → D ≤ k ∧ k < w.heap.size := by
  obtain ⟨xs, rfl, hown, hx⟩ := h
  rcases ow_slice hown with ⟨hv, hn, _⟩ | ⟨g, cap, hv⟩
  · exact ⟨none, 0, by rw [hv, hn], by omega, by unfold maxLen; omega, fun k hk => hown.lt k hk⟩
  · subst hv
    obtain ⟨cur, hA, hB, h3, h4, h5, _⟩ := own_block hown
    exact ⟨_, _, rfl, h3, h4, fun k hk => hown.lt k hk⟩
theorem OwnNds.shapeN {w : World} {B D n : Nat} {v : Value} {l : List NodeD} (h : OwnNds w B D v l) (hn : l.length = n) : ∃ p c, v = .slice p n c := by
  obtain ⟨p, c, h1, _⟩ := h.shape
  exact ⟨p, c, by rw [h1, hn]⟩
/-- the row's nodes, one by one -/
theorem OwnNds.kid {w : World} {B D : Nat} {p : Option Addr} {n c : Nat} {l : List NodeD} (h : OwnNds w B D (.slice p n c) l) (hBD : B ≤ D) : ∀ j t, l[j]? = some t → ∃ g, p = some ⟨g, 0, none⟩ ∧ KidAt (mask (OwnF B w) w) (some ⟨g, 0, none⟩) j t := by
  obtain ⟨xs, rfl, hown, hx⟩ := h
  intro j t hj
  rw [List.getElem?_map] at hj
  cases hxi : xs[j]? with
  | none => rw [hxi] at hj; simp at hj
  | some x =>
    rw [hxi] at hj
    simp only [Option.map_some, Option.some.injEq] at hj
    subst hj
    have hlt := (List.getElem?_eq_some_iff.1 hxi).1
    rcases ow_slice hown with ⟨_, hn, _⟩ | ⟨g, cap, hv⟩
    · rw [List.length_map] at hn; omega
    · have hv' := hv
      injection hv' with e1 e2 e3
      subst e1; subst e2; subst e3
      obtain ⟨cur, hA, hB, h3, h4, h5, _⟩ := own_block hown
      have hF : OwnF B w g := ⟨by have := (hown.lt g rfl).1; omega, cur, _, by first | exact hA | exact hB⟩
      have hc : ∀ i u, (ndCs x.2)[i]? = some u → (mask (OwnF B w) w).cell? ⟨g, 0 + j * 3 + i, none⟩ = some u := fun i u hi => mask_cell.2 ⟨hF, by
        have h6 := ndRows_cell xs j x hxi i u hi
        obtain ⟨h7, h8⟩ := List.getElem?_eq_some_iff.1 h6
        rw [Nat.zero_add, ow_cell hown (j * 3 + i) h7, h8]⟩
      exact ⟨g, rfl, g, 0, x.2.1, x.2.2.1, x.2.2.2, rfl, hc 0 _ rfl, hc 1 _ rfl, hc 2 _ rfl, (hx x (List.mem_of_getElem? hxi)).keep (mask_keeps fun _ _ hf hv => ⟨hf.1, hv⟩)⟩
theorem OwnNds.below {w w' : World} {B D : Nat} {v : Value} {l : List NodeD} (h : OwnNds w B D v l) (hb : Below w.heap.size w w') : OwnNds w' B D v l := by
  obtain ⟨xs, h1, hown, hx⟩ := h
  exact ⟨xs, h1, own_belowP hown hb, fun x hxm => (hx x hxm).keep (mask_keeps fun a u hf hu => ⟨⟨⟨hf.1.1, free_below hf.1.2 hb⟩, hf.2⟩, cell_stays hb hu⟩)⟩
theorem OwnNds.none {w : World} {B D : Nat} : OwnNds w B D (.slice none 0 0) [] := ⟨[], rfl, World.ownsRow_nil w D _ _, fun x h => by simp at h⟩
theorem OwnNds.mono {w : World} {B D D' : Nat} {v : Value} {l : List NodeD} (h : D ≤ D') (ho : OwnNds w B D' v l) : OwnNds w B D v l := by
  obtain ⟨xs, h1, hown, hx⟩ := ho
  exact ⟨xs, h1, ow_mono h hown, hx⟩
theorem OwnNds.block {w : World} {B D : Nat} {v : Value} {l : List NodeD} (h : OwnNds w B D v l) : ∀ k, v.ownBlock = some k → D ≤ k ∧ k < w.heap.size := by
  obtain ⟨xs, h1, hown, hx⟩ := h
  exact fun k hk => hown.lt k hk
/-- one node more -/
theorem nd_append (W : World) (B D n : Nat) (v : Value) (l : List NodeD) (t : NodeD) (a b c : Value) (hown : OwnNds W B D v l) (hl : l.length = n) (hn : n ≤ 1000000) (hD : D ≤ W.heap.size) (h3 : NodeAt (mask (OwnF2 B v W) W) t a b c) :
    ∃ g cap w2, (Builtin.append_ #[41, 41] 41 #[v, .slice (some ⟨W.heap.size, 0, none⟩) 1 1]).run Try.prog (W.alloc (.cells #[a, b, c] 43)) = .ok (.slice (some ⟨g, 0, none⟩) (n + 1) cap) w2 ∧
      OwnNds w2 B D (.slice (some ⟨g, 0, none⟩) (n + 1) cap) (l ++ [t]) ∧ Below D W w2 := by
  obtain ⟨xs, hx0, hown, hx⟩ := hown
  obtain ⟨pa, na, ca, pb, nb, cb, pc, nc, cc, rfl, rfl, rfl⟩ := node_slices h3
  rw [hl] at hown
  obtain ⟨i0, hi0, hz0, hz1, hz2⟩ := info_parts infoN
  obtain ⟨v', w', r1, r2, r3, _, r5⟩ := run_append_own_at (P := Try.prog) (W.alloc (.cells #[.slice pa na ca, .slice pb nb cb, .slice pc nc cc] 43)) D 41 41 43 i0 _ 3 72 Try.underlying41 hi0 hz0 hz1 hz2 rfl (by decide) v n _ (hown.alloc _) ⟨W.heap.size, 0, none⟩ 1 1 [.slice pa na ca, .slice pb nb cb, .slice pc nc cc] rfl (by
      intro j u hu
      rw [ow_at, World.cell?_alloc_at _ _ _ _ rfl]
      rcases j with _ | _ | _ | j
      · exact hu
      · exact hu
      · exact hu
      · simp at hu) (by
      intro u hu; simp only [List.mem_cons, List.not_mem_nil, or_false] at hu
      rcases hu with rfl | rfl | rfl <;> rfl) (by unfold maxLen; omega) (by omega) (by simp; omega)
  obtain ⟨g, cap, rfl⟩ := ownsRow_succ r2
  have hk : Keeps (mask (OwnF2 B v W) W) (mask (OwnF2 B (.slice (some ⟨g, 0, none⟩) (n + 1) cap) w') w') := mask_keeps fun a u hf hu => by
    have hlt := World.block_lt_of_cell? _ _ hu
    have ha : Below W.heap.size W (W.alloc (.cells #[.slice pa na ca, .slice pb nb cb, .slice pc nc cc] 43)) := (Below.refl _ _).alloc (Nat.le_refl _) _
    refine ⟨⟨⟨hf.1.1, ?_⟩, fun e => ?_⟩, r3.cell (cell_stays ha hu) hf.2⟩
    · obtain ⟨c', t', hc'⟩ := free_below hf.1.2 ha
      exact ⟨c', t', (r3.block a.block (Array.getElem?_eq_some_iff.1 hc').1 hf.2).trans hc'⟩
    rcases r5 with r5 | r5
    · rw [r5] at e; exact hf.2 e
    · rw [r5] at e; injection e with e; simp at e; omega
  refine ⟨g, cap, w', r1, ⟨xs ++ [(t, (.slice pa na ca, .slice pb nb cb, .slice pc nc cc))], by rw [List.map_append, hx0]; rfl, ?_, fun x hxm => ?_⟩, ow_grown (Below.refl _ _) hD hown r3⟩
  · rw [List.length_append, hl, ndRows_snoc]; exact r2
  · rw [List.mem_append, List.mem_singleton] at hxm
    rcases hxm with hxm | rfl
    · exact (hx x hxm).keep hk
    · exact h3.keep hk
/-- from one world to a later one: the blocks of the first -/
theorem lt_keep {W0 W : World} {B : Nat} (hb : Below W0.heap.size W0 W) : Keeps (mask (OwnF B W0) W0) (mask (OwnLt B W0.heap.size W) W) :=
  mask_keeps fun _ _ hf hu => ⟨⟨⟨hf.1, free_below hf.2 hb⟩, World.block_lt_of_cell? _ _ hu⟩, cell_stays hb hu⟩
theorem lt_to {W : World} {B D : Nat} {v : Value} (hv : ∀ k, v.ownBlock = some k → D ≤ k) : Keeps (mask (OwnLt B D W) W) (mask (OwnF2 B v W) W) :=
  mask_keeps fun _ _ hf hu => ⟨⟨hf.1, fun e => by have := hv _ e.symm; have := hf.2; omega⟩, hu⟩
theorem lt_below {W0 W : World} {B D : Nat} (hb : Below W0.heap.size W0 W) : Keeps (mask (OwnLt B D W0) W0) (mask (OwnLt B D W) W) :=
  mask_keeps fun _ _ hf hu => ⟨⟨⟨hf.1.1, free_below hf.1.2 hb⟩, hf.2⟩, cell_stays hb hu⟩
theorem kid_keep {w w' : World} {p : Option Addr} {j : Nat} {t : NodeD} (h : KidAt w p j t) (hk : Keeps w w') : KidAt w' p j t := by
  obtain ⟨g, o, x, y, z, e1, e2, e3, e4, e5⟩ := h
  exact ⟨g, o, x, y, z, e1, hk _ _ e2, hk _ _ e3, hk _ _ e4, e5.keep hk⟩
theorem head_bd {w : World} {t : NodeD} {x y z : Value} (h : NodeAt w t x y z) (hk : 1 ≤ t.keys.length) : ∃ g o n c, x = .slice (some ⟨g, o, none⟩) n c ∧ 1 ≤ n ∧ i64B (headK t) ∧ w.cell? ⟨g, o, none⟩ = some (.int .i64 (headK t)) := by
  obtain ⟨⟨p, c, rfl, _, _, h1⟩, _⟩ := nodeAt_iff.1 h
  have e : t.keys[0]? = some (headK t) := by
    unfold headK
    cases hx : t.keys with
    | nil => rw [hx] at hk; simp at hk
    | cons a l => rfl
  obtain ⟨b, g, o, rfl, h3⟩ := h1 0 _ e
  exact ⟨g, o, _, c, rfl, hk, b, by rw [Nat.add_zero] at h3; exact h3⟩
/-- a leaf, out of its box -/
theorem leaf_at {W : World} {B B0 : Nat} {kv vv : Value} {p : List PairD} (hp : PBd p) (hk : W.ownsRow B 3 1 kv p.length (intVs (p.map Prod.fst))) (hv : W.ownsRow B 3 1 vv p.length (intVs (p.map Prod.snd))) (h0 : B0 ≤ B) {v : Value} (hr : ∀ k, v.ownBlock = some k → k < B) :
    NodeAt (mask (OwnF2 B0 v W) W) (leafN p) kv vv (.slice none 0 0) := by
  have hkeep : Keeps (mask (IntF B W) W) (mask (OwnF2 B0 v W) W) := mask_keeps fun a u hf hu => ⟨⟨⟨by have := hf.1; omega, by obtain ⟨c, hc⟩ := hf.2; exact ⟨c, _, hc⟩⟩, fun e => by have := hr _ e.symm; have := hf.1; omega⟩, hu⟩
  rw [nodeAt_iff]
  refine ⟨(ints_cloned (fun x hx => ?_) (by unfold leafN NodeD.keys; simp only; rw [List.length_map]; exact hk)).keep hkeep, (ints_cloned (fun x hx => ?_) (by unfold leafN NodeD.vals; simp only; rw [List.length_map]; exact hv)).keep hkeep, none, 0, rfl, Nat.le_refl _, by unfold maxLen; omega, fun j t hj => by simp [leafN, NodeD.kids] at hj⟩
  · unfold leafN NodeD.keys at hx; simp only at hx; rw [List.mem_map] at hx; obtain ⟨y, hy, rfl⟩ := hx; exact (hp y hy).1
  · unfold leafN NodeD.vals at hx; simp only at hx; rw [List.mem_map] at hx; obtain ⟨y, hy, rfl⟩ := hx; exact (hp y hy).2
/-- a node above others, out of its box: its kids lie in a row that was cloned -/
theorem over_at {W : World} {B B0 D Dc : Nat} {kv : Value} {gr cr : Nat} {q : List NodeD} {xs : List Value} (_hq : 1 ≤ q.length) (hk : W.ownsRow B 3 1 kv q.length (intVs (q.map headK))) (hbd : ∀ t ∈ q, i64B (headK t)) (h0 : B0 ≤ B) (_hDB : D ≤ B) {v : Value} (hr : ∀ k, v.ownBlock = some k → D ≤ k ∧ k < Dc)
    (hDc : D ≤ Dc) (hBc : Dc ≤ B) (h0D : B0 ≤ D) (hc : W.ownsRow Dc 43 3 (.slice (some ⟨gr, 0, none⟩) q.length cr) q.length xs)
    (hx : ∀ j t, q[j]? = some t → ∃ x y z, xs[j * 3]? = some x ∧ xs[j * 3 + 1]? = some y ∧ xs[j * 3 + 2]? = some z ∧ NodeAt (mask (OwnLt B0 D W) W) t x y z) :
    NodeAt (mask (OwnF2 B0 v W) W) (overN q) kv (.slice none 0 0) (.slice (some ⟨gr, 0, none⟩) q.length cr) := by
  have hkeep : Keeps (mask (IntF B W) W) (mask (OwnF2 B0 v W) W) := mask_keeps fun a u hf hu => ⟨⟨⟨by have := hf.1; omega, by obtain ⟨c, hc⟩ := hf.2; exact ⟨c, _, hc⟩⟩, fun e => by have := (hr _ e.symm).2; have := hf.1; omega⟩, hu⟩
  obtain ⟨cur, h3, h2, h4, h5, h6, h7⟩ := own_block hc
  have hg := (hc.lt gr rfl).1
  rw [nodeAt_iff]
  refine ⟨(ints_cloned (fun x hx => ?_) (by unfold overN NodeD.keys; simp only; rw [List.length_map]; exact hk)).keep hkeep, ⟨none, 0, rfl, Nat.le_refl _, by unfold maxLen; omega, fun i x hx => by simp [overN, NodeD.vals] at hx⟩, some ⟨gr, 0, none⟩, cr, rfl, h4, h5, fun j t hj => ?_⟩
  · unfold overN NodeD.keys at hx; simp only at hx; rw [List.mem_map] at hx; obtain ⟨y, hy, rfl⟩ := hx; exact hbd y hy
  · obtain ⟨x, y, z, e1, e2, e3, e4⟩ := hx j t hj
    have hF : OwnF2 B0 v W gr := ⟨⟨by omega, cur, _, h3⟩, fun e => by have := (hr _ e.symm).2; omega⟩
    have key : ∀ i u, xs[i]? = some u → (mask (OwnF2 B0 v W) W).cell? ⟨gr, i, none⟩ = some u := fun i u hu => mask_cell.2 ⟨hF, by
      obtain ⟨hi, hv⟩ := List.getElem?_eq_some_iff.1 hu
      rw [ow_cell hc i hi, hv]⟩
    exact ⟨gr, 0, x, y, z, rfl, by rw [Nat.zero_add]; exact key _ _ e1, by rw [Nat.zero_add]; exact key _ _ e2, by rw [Nat.zero_add]; exact key _ _ e3, e4.keep (lt_to fun k hk => (hr k hk).1)⟩
/-- a part of a row -/
theorem kid_part {w : World} {g : Nat} {l : List NodeD} {m i : Nat} (hm : 1 ≤ m) (hi : i < m) (h : ∀ j t, l[j]? = some t → KidAt w (some ⟨g, 0, none⟩) j t) : ∀ j t, (partQ l m i)[j]? = some t → KidAt w (some ⟨g, i * l.length / m * 3, none⟩) j t := by
  intro j t hj
  have hlt := (List.getElem?_eq_some_iff.1 hj).1
  rw [partQ_len hm hi] at hlt
  rw [partQ_get hlt] at hj
  obtain ⟨g', o, x, y, z, e1, e2, e3, e4, e5⟩ := h _ t hj
  injection e1 with e1; injection e1 with e1 e6
  subst e1; subst e6
  refine ⟨g, i * l.length / m * 3, x, y, z, rfl, ?_, ?_, ?_, e5⟩
  · rw [← e2]; congr 2; omega
  · rw [← e3]; congr 2; omega
  · rw [← e4]; congr 2; omega
theorem pairs_part {w : World} {p : Option Addr} {n c : Nat} {l : List PairD} {m i : Nat} (hm : 1 ≤ m) (hi : i < m) (h : PairsAt w (.slice p n c) l) : ∀ j x, (partQ l m i)[j]? = some x → ∃ g o, p = some ⟨g, o, none⟩ ∧ w.cell? ⟨g, o + i * l.length / m * 2 + j * 2, none⟩ = some (.int .i64 x.1) ∧ w.cell? ⟨g, o + i * l.length / m * 2 + j * 2 + 1, none⟩ = some (.int .i64 x.2) := by
  intro j x hj
  have hlt := (List.getElem?_eq_some_iff.1 hj).1
  rw [partQ_len hm hi] at hlt
  rw [partQ_get hlt] at hj
  obtain ⟨p', c', e, _, _, h⟩ := h
  injection e with e1 e2 e3
  subst e1
  obtain ⟨g, o, e1, e2, e3⟩ := h _ x hj
  refine ⟨g, o, e1, ?_, ?_⟩
  · rw [← e2]; congr 2; omega
  · rw [← e3]; congr 2; omega
end Go.Proofs.Ytpcmihgfcaelfaa
namespace Go.Proofs.Ytpcmihgfcaelfaa
open Go.RowKit

theorem kid_share {w : World} {g : Nat} {l : List NodeD} {i : Nat} (hl : 1 ≤ l.length) (hi : i < manyQ l.length) (h : ∀ j t, l[j]? = some t → KidAt w (some ⟨g, 0, none⟩) j t) : ∀ j t, (shareQ l i)[j]? = some t → KidAt w (some ⟨g, fromN l.length (manyQ l.length) i * 3, none⟩) j t := by
  intro j t hj
  have hlt := (List.getElem?_eq_some_iff.1 hj).1
  rw [shareQ_len hl hi] at hlt
  rw [shareQ_get hlt] at hj
  obtain ⟨g', o, x, y, z, e1, e2, e3, e4, e5⟩ := h _ t hj
  injection e1 with e1; injection e1 with e1 e6
  subst e1; subst e6
  refine ⟨g, fromN l.length (manyQ l.length) i * 3, x, y, z, rfl, ?_, ?_, ?_, e5⟩
  · rw [← e2]; congr 2; omega
  · rw [← e3]; congr 2; omega
  · rw [← e4]; congr 2; omega
theorem pairs_share {w : World} {p : Option Addr} {n c : Nat} {l : List PairD} {i : Nat} (hl : 1 ≤ l.length) (hi : i < manyQ l.length) (h : PairsAt w (.slice p n c) l) : ∀ j x, (shareQ l i)[j]? = some x → ∃ g o, p = some ⟨g, o, none⟩ ∧ w.cell? ⟨g, o + fromN l.length (manyQ l.length) i * 2 + j * 2, none⟩ = some (.int .i64 x.1) ∧ w.cell? ⟨g, o + fromN l.length (manyQ l.length) i * 2 + j * 2 + 1, none⟩ = some (.int .i64 x.2) := by
  intro j x hj
  have hlt := (List.getElem?_eq_some_iff.1 hj).1
  rw [shareQ_len hl hi] at hlt
  rw [shareQ_get hlt] at hj
  obtain ⟨p', c', e, _, _, h⟩ := h
  injection e with e1 e2 e3
  subst e1
  obtain ⟨g, o, e1, e2, e3⟩ := h _ x hj
  refine ⟨g, o, e1, ?_, ?_⟩
  · rw [← e2]; congr 2; omega
  · rw [← e3]; congr 2; omega
theorem share_bd {l : List PairD} {i : Nat} (h : PBd l) : PBd (shareQ l i) := fun x hx => h x (by unfold shareQ at hx; exact List.mem_of_mem_drop (List.mem_of_mem_take hx))
theorem share_mem {α : Type} {l : List α} {i : Nat} {x : α} (hx : x ∈ shareQ l i) : x ∈ l := by unfold shareQ at hx; exact List.mem_of_mem_drop (List.mem_of_mem_take hx)
/-- the numbers of a share -/
theorem share_nums {n k : Nat} (h1 : 1 ≤ n) (h2 : n ≤ 1000000) (hk : k < manyQ n) : ∃ lo np hi : Nat, lo = fromN n (manyQ n) k ∧ np = shareN n (manyQ n) k ∧ hi = fromN n (manyQ n) (k + 1) ∧ lo + np = hi ∧ hi ≤ n ∧ 1 ≤ np ∧ np ≤ 4 ∧ wrap64 ((lo : Int) + (np : Int)) = (hi : Int) := by
  have h3 := fromN_step n (manyQ n) k
  have h4 := fromN_le (n := n) (manyQ_bd h1).1 (manyQ n - (k + 1)) (k + 1) (by omega)
  have h5 := shareN_bd h1 k
  refine ⟨_, _, _, rfl, rfl, rfl, h3.symm, h4, h5.1, h5.2.1, ?_⟩
  obtain ⟨a, ha⟩ : ∃ a, fromN n (manyQ n) k = a := ⟨_, rfl⟩
  obtain ⟨b, hb⟩ : ∃ b, shareN n (manyQ n) k = b := ⟨_, rfl⟩
  obtain ⟨c, hc⟩ : ∃ c, fromN n (manyQ n) (k + 1) = c := ⟨_, rfl⟩
  rw [ha, hb, hc] at h3; rw [hc] at h4
  rw [ha, hb, hc]
  clear h5
  unfold wrap64; omega
theorem sharesQ_at {n k : Nat} (h : k < manyQ n) : (intVs (sharesQ n))[k]? = some (.int .i64 (shareN n (manyQ n) k : Nat)) := by
  unfold intVs sharesQ
  rw [List.getElem?_map, List.getElem?_map, List.getElem?_range h]; rfl
end Go.Proofs.Ytpcmihgfcaelfaa
namespace Go.Proofs.Ytpcmihgfcaelfaa
open Go.RowKit

theorem step_append_run {P : Program} {ops : Array Oper} {o : Oper} {a : Act} {w w' : World} {K : Act → World → Prop} {Q : Exit → Act → World → Prop} {E : Prop}
    (hg : o.guard = none) (s x : Operand) (t : TypeId) (hop : o.op = Op.call { callee := Callee.builtin Builtin.append, args := #[s, x], argTypes := #[t, t] })
    {vs vx v' : Value} (hs : a.eval s = vs) (hx : a.eval x = vx) (hr : (Builtin.append_ #[t, t] o.type #[vs, vx]).run P w = .ok v' w') (hK : K (a.put o.dst v') w') :
    if Region.wanted o (yielded ops a.tmps) = true then Oper.wp P o a w K Q else E := by
  have hw : Region.wanted o (yielded ops a.tmps) = true := by simp [Region.wanted, hg]
  rw [if_pos hw]
  unfold Oper.wp
  simp [execOp, hop, resolve, invoke, builtin, hs, hx, hr, Result.andThen]
  exact hK
end Go.Proofs.Ytpcmihgfcaelfaa
namespace Go.Proofs.Ytpcmihgfcaelfaa
open Go.RowKit

theorem apart_type {W : World} {B B' : Nat} {e e' : TypeId} {k k' n n' : Nat} {u v : Value} {xs ys : List Value} (h : W.ownsRow B e k u n xs) (h' : W.ownsRow B' e' k' v n' ys) (hne : e ≠ e') : Apart u v := by
  rcases h.2 with ⟨hu, _⟩ | ⟨g, cap, cur, hu, _, hg, _⟩
  · left; rw [hu]; rfl
  · rcases h'.2 with ⟨hv, _⟩ | ⟨g', cap', cur', hv, _, hg', _⟩
    · right; rw [hu, hv]; simp [Value.ownBlock]
    · right; rw [hu, hv]
      intro e
      simp only [Value.ownBlock, Option.some.injEq] at e
      subst e
      rw [hg] at hg'
      injection hg' with hg'; injection hg' with _ h2 _
      exact hne h2
theorem node_append3 (W : World) (B n : Nat) (v : Value) (xs : List Value) {pa pb pc : Option Addr} {na ca nb cb nc cc : Nat} (hown : W.ownsRow B 43 3 v n xs) (hn : n ≤ 1000000) (hB : B ≤ W.heap.size) :
    ∃ g cap w2, (Builtin.append_ #[41, 41] 41 #[v, .slice (some ⟨W.heap.size, 0, none⟩) 1 1]).run Try.prog (W.alloc (.cells #[.slice pa na ca, .slice pb nb cb, .slice pc nc cc] 43)) = .ok (.slice (some ⟨g, 0, none⟩) (n + 1) cap) w2 ∧
      w2.ownsRow B 43 3 (.slice (some ⟨g, 0, none⟩) (n + 1) cap) (n + 1) (xs ++ [.slice pa na ca, .slice pb nb cb, .slice pc nc cc]) ∧ Below B W w2 ∧ Others W w2 v (.slice (some ⟨g, 0, none⟩) (n + 1) cap) := by
  obtain ⟨i0, hi0, hz0, hz1, hz2⟩ := info_parts infoN
  obtain ⟨v', w', r1, r2, r3, _, r5⟩ := run_append_own_at (P := Try.prog) (W.alloc (.cells #[.slice pa na ca, .slice pb nb cb, .slice pc nc cc] 43)) B 41 41 43 i0 _ 3 72 Try.underlying41 hi0 hz0 hz1 hz2 rfl (by decide) v n _ (hown.alloc _) ⟨W.heap.size, 0, none⟩ 1 1 [.slice pa na ca, .slice pb nb cb, .slice pc nc cc] rfl (by
      intro j u hu
      rw [ow_at, World.cell?_alloc_at _ _ _ _ rfl]
      rcases j with _ | _ | _ | j
      · exact hu
      · exact hu
      · exact hu
      · simp at hu) (by
      intro u hu; simp only [List.mem_cons, List.not_mem_nil, or_false] at hu
      rcases hu with rfl | rfl | rfl <;> rfl) (by unfold maxLen; omega) (by omega) (by simp; omega)
  obtain ⟨g, cap, rfl⟩ := ownsRow_succ r2
  exact ⟨g, cap, w', r1, r2, ow_grown (Below.refl _ _) hB hown r3, others_of (fun B' e' k' u m ys h => h.alloc _) r3 r5⟩
/-- one key more in a box; the kids' row stays -/
theorem push_key2 {W : World} {B n : Nat} {kv y cv : Value} {ks : List Int} {ys : List Value} {m : Nat} (x : Int) (hbox : NdBlk W B kv y cv) (hk : W.ownsRow (B + 1) 3 1 kv n (intVs ks)) (hc : W.ownsRow (B + 1) 43 3 cv m ys) (hn : n ≤ 1000000) :
    ∃ g cap w2, (Builtin.append_ #[40, 40] 40 #[kv, .slice (some ⟨W.heap.size, 0, none⟩) 1 1]).run Try.prog (W.alloc (.cells #[.int .i64 x] 3)) = .ok (.slice (some ⟨g, 0, none⟩) (n + 1) cap) w2 ∧ NdBlk w2 B kv y cv ∧
      NdBlk (w2.setCell ⟨B, 0, none⟩ (.slice (some ⟨g, 0, none⟩) (n + 1) cap)) B (.slice (some ⟨g, 0, none⟩) (n + 1) cap) y cv ∧
      (w2.setCell ⟨B, 0, none⟩ (.slice (some ⟨g, 0, none⟩) (n + 1) cap)).ownsRow (B + 1) 3 1 (.slice (some ⟨g, 0, none⟩) (n + 1) cap) (n + 1) (intVs (ks ++ [x])) ∧
      (w2.setCell ⟨B, 0, none⟩ (.slice (some ⟨g, 0, none⟩) (n + 1) cap)).ownsRow (B + 1) 43 3 cv m ys ∧
      Below B W (w2.setCell ⟨B, 0, none⟩ (.slice (some ⟨g, 0, none⟩) (n + 1) cap)) ∧
      (∀ a u, W.cell? a = some u → some a.block ≠ kv.ownBlock → a.block ≠ B → (w2.setCell ⟨B, 0, none⟩ (.slice (some ⟨g, 0, none⟩) (n + 1) cap)).cell? a = some u) := by
  obtain ⟨g, cap, w2, h1, h2, h3, h4, h5⟩ := int_append3 W (B + 1) n kv ks x hk hn hbox.lt
  have hbox2 := hbox.low h3 (Nat.lt_succ_self _)
  exact ⟨g, cap, w2, h1, hbox2, hbox2.set0 _, own_set h2 (Nat.lt_succ_self _), own_set (h4 _ _ _ _ _ _ hc (apart_type hc hk (by decide))).1 (Nat.lt_succ_self _), below_set (below_low h3 (Nat.le_succ _)), fun a u hu hne hB => (grown_set _ _ _ _).cell (h5 a u hu hne) (fun e => hB (by injection e))⟩
/-- one kid more in a box; the keys' row stays -/
theorem push_kid {W : World} {B n m : Nat} {kv y cv : Value} {ks : List Int} {ys : List Value} {pa pb pc : Option Addr} {na ca nb cb nc cc : Nat} (hbox : NdBlk W B kv y cv) (hk : W.ownsRow (B + 1) 3 1 kv m (intVs ks)) (hc : W.ownsRow (B + 1) 43 3 cv n ys) (hn : n ≤ 1000000) :
    ∃ g cap w2, (Builtin.append_ #[41, 41] 41 #[cv, .slice (some ⟨W.heap.size, 0, none⟩) 1 1]).run Try.prog (W.alloc (.cells #[.slice pa na ca, .slice pb nb cb, .slice pc nc cc] 43)) = .ok (.slice (some ⟨g, 0, none⟩) (n + 1) cap) w2 ∧ NdBlk w2 B kv y cv ∧
      NdBlk (w2.setCell ⟨B, 2, none⟩ (.slice (some ⟨g, 0, none⟩) (n + 1) cap)) B kv y (.slice (some ⟨g, 0, none⟩) (n + 1) cap) ∧
      (w2.setCell ⟨B, 2, none⟩ (.slice (some ⟨g, 0, none⟩) (n + 1) cap)).ownsRow (B + 1) 43 3 (.slice (some ⟨g, 0, none⟩) (n + 1) cap) (n + 1) (ys ++ [.slice pa na ca, .slice pb nb cb, .slice pc nc cc]) ∧
      (w2.setCell ⟨B, 2, none⟩ (.slice (some ⟨g, 0, none⟩) (n + 1) cap)).ownsRow (B + 1) 3 1 kv m (intVs ks) ∧
      Below B W (w2.setCell ⟨B, 2, none⟩ (.slice (some ⟨g, 0, none⟩) (n + 1) cap)) := by
  obtain ⟨g, cap, w2, h1, h2, h3, h4⟩ := node_append3 W (B + 1) n cv ys (pa := pa) (pb := pb) (pc := pc) (na := na) (ca := ca) (nb := nb) (cb := cb) (nc := nc) (cc := cc) hc hn hbox.lt
  have hbox2 := hbox.low h3 (Nat.lt_succ_self _)
  exact ⟨g, cap, w2, h1, hbox2, hbox2.set2 _, own_set h2 (Nat.lt_succ_self _), own_set (h4 _ _ _ _ _ _ hk (apart_type hk hc (by decide))).1 (Nat.lt_succ_self _), below_set (below_low h3 (Nat.le_succ _))⟩
theorem take3 {xs : List Value} {j : Nat} {x y z : Value} (h1 : xs[j * 3]? = some x) (h2 : xs[j * 3 + 1]? = some y) (h3 : xs[j * 3 + 2]? = some z) : xs.take ((j + 1) * 3) = xs.take (j * 3) ++ [x, y, z] := by
  rw [show (j + 1) * 3 = j * 3 + 3 by omega, List.take_add]
  congr 1
  obtain ⟨l1, rfl⟩ := List.getElem?_eq_some_iff.1 h1
  obtain ⟨l2, rfl⟩ := List.getElem?_eq_some_iff.1 h2
  obtain ⟨l3, rfl⟩ := List.getElem?_eq_some_iff.1 h3
  rw [List.drop_eq_getElem_cons l1, List.drop_eq_getElem_cons l2, List.drop_eq_getElem_cons l3]
  rfl
end Go.Proofs.Ytpcmihgfcaelfaa
