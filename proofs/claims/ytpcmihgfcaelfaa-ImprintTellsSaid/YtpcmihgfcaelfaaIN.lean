/- Tables of a call's own, in plain words; one use more behind one of them. · Volumes that are the same but for the shape of their trees: plain. · The walk of imprint.Text. · The walk of imprint.Tables. -/
import Derived.Test.YtpcmihgfcaelfaaIM
import Derived.Test.YtpcmihgfcaelfaaII
import Derived.Test.YtpcmihgfcaelfaaID
import Derived.Laws.OwnMore
import Derived.Test.YtpcmihgfcaelfaaIK
import Derived.Test.YtpcmihgfcaelfaaIJ
namespace Go.Proofs.Ytpcmihgfcaelfaa
open Go.RowKit

def useCells (u : UseD) : List Value := [.int .i64 u.1, .int .i64 u.2.1, .int .i64 u.2.2.1, .bool u.2.2.2]
def useRows (l : List UseD) : List Value := (l.map useCells).flatten
theorem useRows_snoc (l : List UseD) (u : UseD) : useRows (l ++ [u]) = useRows l ++ useCells u := by unfold useRows; simp
theorem useRows_len (l : List UseD) : (useRows l).length = l.length * 4 := by
  induction l with
  | nil => rfl
  | cons a l ih => unfold useRows at *; rw [List.map_cons, List.flatten_cons, List.length_append, ih, List.length_cons]; unfold useCells; simp only [List.length_cons, List.length_nil]; omega
theorem useRows_get : ∀ (l : List UseD) (i : Nat) (u : UseD) (j : Nat) (x : Value), l[i]? = some u → (useCells u)[j]? = some x → (useRows l)[i * 4 + j]? = some x
  | [], i, u, j, x, h, _ => by simp at h
  | a :: l, 0, u, j, x, h, hx => by
    simp only [List.getElem?_cons_zero, Option.some.injEq] at h
    subst h
    have hj := (List.getElem?_eq_some_iff.1 hx).1
    unfold useRows
    rw [List.map_cons, List.flatten_cons, List.getElem?_append_left (by omega), Nat.zero_mul, Nat.zero_add]
    exact hx
  | a :: l, i + 1, u, j, x, h, hx => by
    rw [List.getElem?_cons_succ] at h
    have h1 := useRows_get l i u j x h hx
    unfold useRows at *
    rw [List.map_cons, List.flatten_cons, List.getElem?_append_right (by unfold useCells; simp only [List.length_cons, List.length_nil]; omega)]
    rw [show (i + 1) * 4 + j - (useCells a).length = i * 4 + j by unfold useCells; simp only [List.length_cons, List.length_nil]; omega]
    exact h1
theorem uses_of_row {w : World} {B : Nat} {v : Value} {l : List UseD} (h : w.ownsRow B 37 4 v l.length (useRows l)) : UsesAt w v l := by
  rcases ow_slice h with ⟨hv, hn, _⟩ | ⟨g, cap, hv⟩
  · exact ⟨none, 0, by rw [hv, hn], by omega, by unfold maxLen; omega, fun i x hx => by rw [List.eq_nil_of_length_eq_zero hn] at hx; simp at hx⟩
  · subst hv
    obtain ⟨_, _, _, h3, h4, _⟩ := own_block h
    refine ⟨_, cap, rfl, h3, h4, fun i x hx => ⟨g, 0, rfl, ?_⟩⟩
    have key : ∀ (j : Nat) u, (useCells x)[j]? = some u → w.cell? ⟨g, i * 4 + j, none⟩ = some u := fun j u hu => by
      have h5 := useRows_get l i x j u hx hu
      obtain ⟨h6, h7⟩ := List.getElem?_eq_some_iff.1 h5
      rw [ow_cell h _ h6, h7]
    rw [Nat.zero_add]
    exact ⟨key 0 _ rfl, key 1 _ rfl, key 2 _ rfl, key 3 _ rfl⟩
theorem infoUse : (Try.prog.info? 37).map (fun i => (i.zero, i.size, i.bytes)) = some (some (.agg #[.int .i64 0, .int .i64 0, .int .i64 0, .bool false]), 4, 32) := by kernel_rfl
theorem infoTab : (Try.prog.info? 35).map (fun i => (i.zero, i.size, i.bytes)) = some (some (.slice none 0 0), 1, 24) := by kernel_rfl
/-- one use more behind a row of the call's own -/
theorem use_append (W : World) (B n : Nat) (v : Value) (l : List UseD) (u : UseD) (hown : W.ownsRow B 37 4 v n (useRows l)) (hn : n ≤ 1000000) (hB : B ≤ W.heap.size) :
    ∃ g cap w2, (Builtin.append_ #[35, 35] 35 #[v, .slice (some ⟨W.heap.size, 0, none⟩) 1 1]).run Try.prog (W.alloc (.cells #[.int .i64 u.1, .int .i64 u.2.1, .int .i64 u.2.2.1, .bool u.2.2.2] 37)) = .ok (.slice (some ⟨g, 0, none⟩) (n + 1) cap) w2 ∧
      w2.ownsRow B 37 4 (.slice (some ⟨g, 0, none⟩) (n + 1) cap) (n + 1) (useRows (l ++ [u])) ∧ Below B W w2 ∧ Others W w2 v (.slice (some ⟨g, 0, none⟩) (n + 1) cap) ∧ ∀ a x, W.cell? a = some x → some a.block ≠ v.ownBlock → w2.cell? a = some x := by
  obtain ⟨i0, hi0, hz0, hz1, hz2⟩ := info_parts infoUse
  obtain ⟨v', w', h1, h2, h3, _, h5⟩ := run_append_own_at (P := Try.prog) (W.alloc (.cells #[.int .i64 u.1, .int .i64 u.2.1, .int .i64 u.2.2.1, .bool u.2.2.2] 37)) B 35 35 37 i0 _ 4 32 Try.underlying35 hi0 hz0 hz1 hz2 rfl (by decide) v n _ (hown.alloc _) ⟨W.heap.size, 0, none⟩ 1 1 (useCells u) rfl (by
      intro j x hx
      rw [ow_at, World.cell?_alloc_at _ _ _ _ rfl]
      unfold useCells at hx
      rcases j with _ | _ | _ | _ | j
      · exact hx
      · exact hx
      · exact hx
      · exact hx
      · simp at hx) (by intro x hx; unfold useCells at hx; simp only [List.mem_cons, List.not_mem_nil, or_false] at hx; rcases hx with rfl | rfl | rfl | rfl <;> rfl) (by unfold maxLen; omega) (by omega) (by simp; omega)
  obtain ⟨g, cap, rfl⟩ := ownsRow_succ h2
  refine ⟨g, cap, w', h1, ?_, ow_grown (Below.refl _ _) hB hown h3, others_of (fun B' e' k' u m ys h => h.alloc _) h3 h5, fun a x hx hne => h3.cell (cell_stays ((Below.refl _ _).alloc (Nat.le_refl _) _) hx) hne⟩
  rw [useRows_snoc]; exact h2
/-- so many tables of the call's own: their row, and each one's uses -/
def OwnTabs (W : World) (B D g n : Nat) (T : List (List UseD)) : Prop :=
  ∃ rs : List Value, T.length = n ∧ rs.length = n ∧ W.ownsRow B 35 1 (.slice (some ⟨g, 0, none⟩) n n) n rs ∧ (∀ (j : Nat) r t, rs[j]? = some r → T[j]? = some t → W.ownsRow D 37 4 r t.length (useRows t)) ∧ ∀ (i j : Nat) r r', i ≠ j → rs[i]? = some r → rs[j]? = some r' → Apart r r'
theorem OwnTabs.below {W W' : World} {B D g n : Nat} {T : List (List UseD)} (h : OwnTabs W B D g n T) (hb : Below W.heap.size W W') : OwnTabs W' B D g n T := by
  obtain ⟨rs, h1, h2, h3, h4, h5⟩ := h
  exact ⟨rs, h1, h2, own_belowP h3 hb, fun j r t hr ht => own_belowP (h4 j r t hr ht) hb, h5⟩
theorem OwnTabs.len {W : World} {B D g n : Nat} {T : List (List UseD)} (h : OwnTabs W B D g n T) : T.length = n := h.choose_spec.1
theorem OwnTabs.one {W : World} {B D g n : Nat} {T : List (List UseD)} {c : Nat} {t : List UseD} (h : OwnTabs W B D g n T) (ht : T[c]? = some t) : ∃ r, W.cell? ⟨g, c, none⟩ = some r ∧ W.ownsRow D 37 4 r t.length (useRows t) := by
  obtain ⟨rs, h1, h2, h3, h4, h5⟩ := h
  have hc : c < rs.length := by have := (List.getElem?_eq_some_iff.1 ht).1; omega
  exact ⟨rs[c], ow_cell h3 c hc, h4 c _ t (List.getElem?_eq_getElem hc) ht⟩
theorem OwnTabs.at {W : World} {B D g n : Nat} {T : List (List UseD)} (h : OwnTabs W B D g n T) (hn : n ≤ 1000) : TabsAt W (.slice (some ⟨g, 0, none⟩) n n) T := by
  have h9 := h
  obtain ⟨rs, h1, h2, h3, h4, h5⟩ := h
  refine ⟨_, n, by rw [h1], by omega, by unfold maxLen; omega, fun i t ht => ?_⟩
  obtain ⟨r, hr, ho⟩ := h9.one ht
  exact ⟨g, 0, r, rfl, by rw [Nat.zero_add]; exact hr, uses_of_row ho⟩
theorem tabs_start (W : World) (n : Nat) (hn : n ≤ 1000) : ∃ w1, (Instr.makeSlice 27 (.int .i64 n) (.int .i64 n)).run Try.prog W = .ok (.slice (some ⟨W.heap.size, 0, none⟩) n n) w1 ∧ (∀ D, OwnTabs w1 W.heap.size D W.heap.size n (List.replicate n [])) ∧ Below W.heap.size W w1 := by
  obtain ⟨i0, hi, hz0, hz1, hz2⟩ := info_parts infoTab
  obtain ⟨w1, hmk, hown, hg⟩ := run_make_full (P := Try.prog) W W.heap.size 27 35 i0 (.slice none 0 0) 1 Try.underlying27 hi hz0 hz1 .i64 .i64 n (by rw [hz2]; omega) (by unfold maxLen; omega) (Nat.le_refl _)
  have e : (Value.slice none 0 0).cells = #[Value.slice none 0 0] := rfl
  rw [e, toList_madeCells_one, Nat.mul_one] at hown
  refine ⟨w1, hmk, fun D => ⟨_, by simp, by simp, hown, fun j r t hr ht => ?_, fun i j r r' _ hr _ => ?_⟩, (Below.refl _ _).grown hg (Nat.le_refl _) (fun k e => by cases e)⟩
  · rw [List.getElem?_replicate] at hr ht
    split at hr
    · simp only [Option.some.injEq] at hr; subst hr
      rw [if_pos (by assumption)] at ht
      simp only [Option.some.injEq] at ht; subst ht
      exact World.ownsRow_nil _ _ _ _
    · simp at hr
  · rw [List.getElem?_replicate] at hr
    split at hr
    · simp only [Option.some.injEq] at hr; subst hr; exact .inl rfl
    · simp at hr
theorem set_tab {W : World} {B B' g j n k n' e : Nat} {u v : Value} {xs rs : List Value} (h : W.ownsRow B e k v n xs) (hr : W.ownsRow B' 35 1 (.slice (some ⟨g, 0, none⟩) n' n') n' rs) (hne : e ≠ 35) : (W.setCell ⟨g, j, none⟩ u).ownsRow B e k v n xs :=
  h.kept (grown_set W g j u) (by
    rcases apart_type h hr hne with h1 | h1
    · exact .inl h1
    · exact .inr h1)
/-- a use more, in table c -/
theorem tabs_push (Wr W : World) (B D g n c : Nat) (T : List (List UseD)) (t : List UseD) (u : UseD) (hw : Below Wr.heap.size Wr W) (h : OwnTabs Wr B D g n T) (ht : T[c]? = some t) (hl : t.length ≤ 1000000) (hD : D ≤ Wr.heap.size) :
    ∃ r, W.cell? ⟨g, c, none⟩ = some r ∧ ∃ g' cap w2, (Builtin.append_ #[35, 35] 35 #[r, .slice (some ⟨W.heap.size, 0, none⟩) 1 1]).run Try.prog (W.alloc (.cells #[.int .i64 u.1, .int .i64 u.2.1, .int .i64 u.2.2.1, .bool u.2.2.2] 37)) = .ok (.slice (some ⟨g', 0, none⟩) (t.length + 1) cap) w2 ∧ w2.cell? ⟨g, c, none⟩ = some r ∧ w2.frozen? ⟨g, c, none⟩ = false ∧ OwnTabs (w2.setCell ⟨g, c, none⟩ (.slice (some ⟨g', 0, none⟩) (t.length + 1) cap)) B D g n (T.set c (t ++ [u])) ∧ Below D W w2 ∧ ∀ a x, Wr.heap.size ≤ a.block → W.cell? a = some x → w2.cell? a = some x := by
  have hW := h.below hw
  obtain ⟨r0, hc0, ho0⟩ := h.one ht
  obtain ⟨rs, h1, h2, h3, h4, h5⟩ := hW
  have hc : c < rs.length := by have := (List.getElem?_eq_some_iff.1 ht).1; omega
  have hrc : rs[c]? = some rs[c] := List.getElem?_eq_getElem hc
  have hr0 := h4 c _ t hrc ht
  have her : rs[c] = r0 := by
    have e1 := ow_cell h3 c hc
    rw [hw.cell (World.block_lt_of_cell? _ _ hc0), hc0] at e1
    injection e1 with e1; exact e1.symm
  obtain ⟨g', cap, w2, ha, hb, hbl, ho, hkeep⟩ := use_append W D t.length _ t u hr0 hl (Nat.le_trans hD hw.size)
  have h3' := (ho _ _ _ _ _ _ h3 (apart_type h3 hr0 (by decide))).1
  refine ⟨rs[c], ow_cell h3 c hc, _, _, w2, ha, ow_cell h3' c hc, ow_free h3' c, ⟨rs.set c _, by rw [List.length_set]; exact h1, by rw [List.length_set]; exact h2, ow_set h3' c _ hc, ?_, ?_⟩, hbl, fun a x hlo hx => hkeep a x hx ?_⟩
  · intro j r t' hr ht'
    by_cases hj : c = j
    · subst hj
      rw [List.getElem?_set_self hc] at hr
      rw [List.getElem?_set_self (by rw [h1, ← h2]; exact hc)] at ht'
      cases hr; cases ht'
      have := set_tab (j := c) (u := .slice (some ⟨g', 0, none⟩) (t.length + 1) cap) hb h3' (by decide)
      rw [List.length_append]; exact this
    · rw [List.getElem?_set_ne hj] at hr ht'
      exact set_tab (ho _ _ _ _ _ _ (h4 j r t' hr ht') (h5 j c r _ (fun e => hj e.symm) hr hrc)).1 h3' (by decide)
  · intro i j r r' hij hr hr'
    by_cases hi : c = i
    · subst hi
      rw [List.getElem?_set_self hc] at hr
      rw [List.getElem?_set_ne hij] at hr'
      cases hr
      obtain ⟨t', ht'⟩ : ∃ t', T[j]? = some t' := ⟨_, List.getElem?_eq_getElem (by have := (List.getElem?_eq_some_iff.1 hr').1; omega)⟩
      exact (ho _ _ _ _ _ _ (h4 j r' t' hr' ht') (h5 j c r' _ (fun e => hij e.symm) hr' hrc)).2.2
    · rw [List.getElem?_set_ne hi] at hr
      by_cases hj : c = j
      · subst hj
        rw [List.getElem?_set_self hc] at hr'
        cases hr'
        obtain ⟨t', ht'⟩ : ∃ t', T[i]? = some t' := ⟨_, List.getElem?_eq_getElem (by have := (List.getElem?_eq_some_iff.1 hr).1; omega)⟩
        exact (ho _ _ _ _ _ _ (h4 i r t' hr ht') (h5 i c r _ hij hr hrc)).2.1
      · rw [List.getElem?_set_ne hj] at hr'
        exact h5 i j r r' hij hr hr'
  · rw [her]
    intro e
    have := (ho0.lt _ e.symm).2; omega
/-- blocks between these two are as they were -/
def Mid (g : Nat) (W W' : World) : Prop := ∀ b, g < b → b < W.heap.size → W'.heap[b]? = W.heap[b]?
theorem Mid.cell {g : Nat} {W W' : World} (h : Mid g W W') {a : Addr} {v : Value} (hv : W.cell? a = some v) (hg : g < a.block) : W'.cell? a = some v :=
  (World.cell?_of_block (h a.block hg (World.block_lt_of_cell? _ _ hv))).trans hv
theorem Mid.refl (g : Nat) (W : World) : Mid g W W := fun _ _ _ => rfl
theorem Mid.step {g D : Nat} {W W1 W2 w2 : World} {r : Value} {c : Nat} (h : Mid g W W1) (hs : W.heap.size ≤ W1.heap.size) (hb : Below W1.heap.size W1 W2) (hD : W.heap.size ≤ D) (h2 : Below D W2 w2) : Mid g W (w2.setCell ⟨g, c, none⟩ r) := fun b hg hlt => by
  rw [Below.heap_setCell _ _ _ b (fun e => by simp only at e; omega), h2.block b (by omega), hb.block b (by omega), h b hg hlt]
/-- the use that a counted reference makes -/
def useOf (p : PairD) : UseD := ((refOf p.1).pos, secL (refOf p.1).size, p.2, true)
def chunkOf (p : PairD) : Nat := (refOf p.1).chunk.toNat
/-- may a counted reference lie among so many chunks? -/
def inOk (n : Nat) (p : PairD) : Bool := ofB p.1 && decide ((refOf p.1).chunk < n)
def pushT (T : List (List UseD)) (p : PairD) : List (List UseD) := T.set (chunkOf p) ((T[chunkOf p]?).getD [] ++ [useOf p])
def tabsG (n : Nat) : List (List UseD) → List PairD → Option (List (List UseD))
  | T, [] => some T
  | T, p :: l => if inOk n p = true then tabsG n (pushT T p) l else none
noncomputable def tablesQ (l : List VoD) (c : Int) : Option (List (List UseD)) :=
  if 1 ≤ c ∧ c ≤ 1000 ∧ mayVB l = true then match tabsG c.toNat (List.replicate c.toNat []) (countsV l) with
    | none => none
    | some T => if T.all mayT = true then some T else none
  else none
theorem counts_ok {l : List VoD} (h : mayVB l = true) : ∀ p ∈ countsV l, ofB p.1 = true ∧ 1 ≤ p.2 ∧ p.2 = ((valsV l).count p.1 : Nat) := fun p hp => by
  have h1 := ((counts_tally h).2 p).1 hp
  refine ⟨?_, ?_, h1.2⟩
  · have hm := h1.1
    unfold valsV at hm
    rw [List.mem_flatten] at hm
    obtain ⟨r, hr, hx⟩ := hm
    rw [List.mem_map] at hr
    obtain ⟨d, hd, rfl⟩ := hr
    unfold valsP at hx
    rw [List.mem_map] at hx
    obtain ⟨x, hx, hxe⟩ := hx
    have hd := (mayVB_iff.1 h).1 d hd
    unfold rightN at hd
    simp only [Bool.and_eq_true, List.all_eq_true] at hd
    have := hd.2 x hx
    unfold pairOk at this
    simp only [Bool.and_eq_true] at this
    rw [← hxe]; exact this.1
  · rw [h1.2]
    have := List.count_pos_iff.2 h1.1
    omega
theorem tally_le : ∀ (l : List PairD) (out : List PairD), (tallyP out l).length ≤ out.length + l.length
  | [], out => by simp [tallyP]
  | a :: l, out => by
    have h1 := tally_le l (putP out a.2 ((getP out a.2).1 + 1) false)
    have h2 := putP_len out a.2 ((getP out a.2).1 + 1) false
    simp only [tallyP, List.length_cons]
    simp only [Bool.false_eq_true, if_false] at h2
    omega
theorem tallyV_le : ∀ (l : List VoD) (out : List PairD), (tallyV out l).length ≤ out.length + (valsV l).length
  | [], out => by simp [tallyV]
  | d :: l, out => by
    have h1 := tallyV_le l (tallyP out (pairsN d.map))
    have h2 := tally_le (pairsN d.map) out
    have e : (valsV (d :: l)).length = (pairsN d.map).length + (valsV l).length := by
      unfold valsV valsP; rw [List.map_cons, List.flatten_cons, List.length_append, List.length_map]
    simp only [tallyV]
    omega
theorem counts_len {l : List VoD} {n : Nat} (h : mayVB l = true → (valsV l).length ≤ n) : (countsV l).length ≤ n := by
  unfold countsV
  split
  · rename_i hm
    have h1 := tallyV_le l []
    have h2 := h hm
    simp only [List.length_nil] at h1
    omega
  · exact Nat.zero_le _
theorem pushT_len (T : List (List UseD)) (p : PairD) : (pushT T p).length = T.length := by unfold pushT; rw [List.length_set]
theorem tabsG_next {n k : Nat} {T : List (List UseD)} {l : List PairD} {p : PairD} (h : l[k]? = some p) : tabsG n T (l.drop k) = if inOk n p = true then tabsG n (pushT T p) (l.drop (k + 1)) else none := by
  obtain ⟨hk, hx⟩ := List.getElem?_eq_some_iff.1 h
  rw [List.drop_eq_getElem_cons hk, hx]; rfl
end Go.Proofs.Ytpcmihgfcaelfaa
namespace Go.Proofs.Ytpcmihgfcaelfaa
open Go.RowKit

def rvs (l : List VoD) : List RvD := l.map rvOf
theorem rvs_len (l : List VoD) : (rvs l).length = l.length := by unfold rvs; rw [List.length_map]
theorem rvs_get {l : List VoD} {j : Nat} {d : VoD} (h : l[j]? = some d) : (rvs l)[j]? = some (rvOf d) := by unfold rvs; rw [List.getElem?_map, h]; rfl
theorem rvs_of {x : List VoD} {L : List RvD} (h : RvAll x L) : rvs x = L := by
  apply List.ext_getElem?
  intro j
  unfold rvs
  rw [List.getElem?_map]
  rcases hx : x[j]? with _ | d
  · have h1 := List.getElem?_eq_none_iff.1 hx
    rw [List.getElem?_eq_none_iff.2 (by rw [← h.1]; exact h1)]; rfl
  · obtain ⟨v, hv⟩ : ∃ v, L[j]? = some v := ⟨_, List.getElem?_eq_getElem (by rw [← h.1]; exact (List.getElem?_eq_some_iff.1 hx).1)⟩
    obtain ⟨h1, h2, h3⟩ := h.2 j d v hx hv
    rw [hv]
    simp only [Option.map_some, rvOf]
    rw [h1, h2, h3.1]
theorem alike_rv {a b : VoD} : alikeN a b = true ↔ rvOf a = rvOf b := by
  unfold alikeN rvOf samePs
  simp only [Bool.and_eq_true, beq_iff_eq, decide_eq_true_eq, Prod.mk.injEq, and_assoc]
theorem same_rvs : ∀ {l m : List VoD}, sameVs l m = true ↔ rvs l = rvs m
  | [], [] => by simp [sameVs, rvs]
  | [], b :: m => by simp [sameVs, rvs]
  | a :: l, [] => by simp [sameVs, rvs]
  | a :: l, b :: m => by
    unfold sameVs
    rw [Bool.and_eq_true, same_rvs, alike_rv]
    unfold rvs
    simp
theorem same_dec (l m : List VoD) : sameVs l m = decide (rvs l = rvs m) := by
  rw [Bool.eq_iff_iff, same_rvs, decide_eq_true_eq]
theorem right_ok {d : VoD} (h : rightN d = true) (h2 : SmallTree d.map) : RvOk (rvOf d) := by
  unfold rightN at h
  simp only [Bool.and_eq_true, decide_eq_true_eq, List.all_eq_true] at h
  obtain ⟨⟨h3, h4⟩, h5⟩ := h
  refine ⟨?_, ?_, ?_⟩
  · intro x hx
    rw [numsR_of] at hx
    unfold numsV at hx
    simp only [List.mem_cons] at hx
    rcases hx with rfl | rfl | hx
    · exact num_ok_bd (by omega)
    · exact num_ok_bd (by omega)
    · have key : ∀ l : List PairD, (∀ p ∈ l, pairOk d.size p = true) → ∀ x ∈ flatP l, numOk x = true := fun l => by
        induction l with
        | nil => intro _ x hx; simp [flatP] at hx
        | cons p l ih =>
          intro hp x hx
          have h6 := hp p (by simp)
          unfold pairOk at h6
          simp only [Bool.and_eq_true, decide_eq_true_eq] at h6
          have h7 := ofB_bd h6.1
          simp only [flatP, List.mem_cons] at hx
          rcases hx with rfl | rfl | hx
          · exact num_ok_bd (by omega)
          · exact num_ok_bd (by omega)
          · exact ih (fun q hq => hp q (by simp [hq])) x hx
      exact key _ (fun p hp => h5 p hp) x hx
  · unfold mayN at h4
    simp only [Bool.and_eq_true] at h4
    exact h4.2
  · rw [numsR_of, numsV_len]
    unfold SmallTree at h2
    omega
theorem textV_rv {l : List VoD} (h : mayVB l = true) : textV l = numS (rvs l).length ++ textR (rvs l) := by
  unfold textV
  rw [if_pos h, volsS_rv, rvs_len]; rfl
theorem textV_no {l : List VoD} (h : mayVB l = false) : textV l = [] := by unfold textV; rw [h, if_neg (by simp)]
theorem readQ_textV {l : List VoD} (h : mayVB l = true) (h2 : SmallTrees l) : readQ (textV l) = some (rvs l) := by
  rw [textV_rv h]
  refine readQ_text _ (fun v hv => ?_) (by rw [rvs_len]; exact (mayVB_iff.1 h).2.2)
  unfold rvs at hv
  rw [List.mem_map] at hv
  obtain ⟨d, hd, rfl⟩ := hv
  exact right_ok ((mayVB_iff.1 h).1 d hd) (h2 d hd)
theorem readQ_empty : readQ [] = none := readQ_none (by unfold takeD; rw [if_neg (by simp)])
theorem rvs_few {l : List VoD} (h : SmallTrees l) : ∀ v ∈ rvs l, v.2.2.length ≤ 2000 := fun v hv => by
  unfold rvs at hv
  rw [List.mem_map] at hv
  obtain ⟨d, hd, rfl⟩ := hv
  exact h d hd
/-- what is read of volumes that may be may be -/
theorem rv_may {x l : List VoD} (h : RvAll x (rvs l)) (hm : mayVB l = true) : mayVB x = true := by
  obtain ⟨h1, h2, h3⟩ := mayVB_iff.1 hm
  have hl : x.length = l.length := by rw [h.1, rvs_len]
  have key : ∀ (j : Nat) d, x[j]? = some d → ∃ d', l[j]? = some d' ∧ d.id = d'.id ∧ d.size = d'.size ∧ Grown (pairsN d'.map) d.map := fun j d hd => by
    obtain ⟨d', hd'⟩ : ∃ d', l[j]? = some d' := ⟨_, List.getElem?_eq_getElem (by rw [← hl]; exact (List.getElem?_eq_some_iff.1 hd).1)⟩
    exact ⟨d', hd', h.2 j d _ hd (rvs_get hd')⟩
  refine mayVB_iff.2 ⟨fun d hd => ?_, fun i a b ha hb => ?_, by omega⟩
  · obtain ⟨j, hj⟩ := List.getElem?_of_mem hd
    obtain ⟨d', hd', e1, e2, e3⟩ := key j d hj
    have h4 := h1 d' (List.mem_of_getElem? hd')
    unfold rightN at h4 ⊢
    simp only [Bool.and_eq_true] at h4 ⊢
    have h5 := h4.1.2
    unfold mayN at h5
    simp only [Bool.and_eq_true] at h5
    rw [e1, e2]
    refine ⟨⟨h4.1.1, e3.may h5.2⟩, ?_⟩
    rw [e3.1]; exact h4.2
  · obtain ⟨a', ha', e1, _⟩ := key i a ha
    obtain ⟨b', hb', e2, _⟩ := key (i + 1) b hb
    rw [e1, e2]
    exact h2 i a' b' ha' hb'
theorem text_same {l m : List VoD} (hl : mayVB l = true) (hm : mayVB m = true) (sl : SmallTrees l) (sm : SmallTrees m) : textV l = textV m ↔ sameVs l m = true := by
  rw [same_rvs]
  constructor
  · intro h
    have h1 := readQ_textV hl sl
    rw [h, readQ_textV hm sm] at h1
    injection h1 with h1
    exact h1.symm
  · intro h
    rw [textV_rv hl, textV_rv hm, h]
theorem text_read {s : List UInt8} {L : List RvD} {x : List VoD} (h : readQ s = some L) (hx : RvAll x L) (hm : mayVB x = true) : textV x = s := by
  rw [textV_rv hm, rvs_of hx]
  exact (readQ_told h).symm
/-- tables know of pairs alone -/
theorem tally_rvs : ∀ (l m : List VoD) (out : List PairD), rvs l = rvs m → tallyV out l = tallyV out m
  | [], [], _, _ => rfl
  | [], b :: m, _, h => by simp [rvs] at h
  | a :: l, [], _, h => by simp [rvs] at h
  | a :: l, b :: m, out, h => by
    unfold rvs at h
    rw [List.map_cons, List.map_cons, List.cons.injEq] at h
    have h1 := h.1
    unfold rvOf at h1
    simp only [Prod.mk.injEq] at h1
    simp only [tallyV]
    rw [h1.2.2]
    exact tally_rvs l m _ h.2
theorem tables_rvs {l m : List VoD} (h : rvs l = rvs m) (hl : mayVB l = true) (hm : mayVB m = true) (c : Int) : tablesQ l c = tablesQ m c := by
  unfold tablesQ countsV
  rw [hl, hm, tally_rvs l m [] h]
/-- the text of small volumes is short -/
theorem text_short {l : List VoD} (h : smallVs l = true) : (textV l).length ≤ 1000000 := by
  cases hm : mayVB l with
  | false => rw [textV_no hm]; simp
  | true =>
    unfold smallVs at h
    simp only [Bool.and_eq_true, List.all_eq_true] at h
    have hr := (mayVB_iff.1 hm).1
    have h64 := (mayVB_iff.1 hm).2.2
    unfold textV
    rw [if_pos hm, List.length_append]
    have h1 := numS_len l.length
    have key : ∀ m : List VoD, (∀ d ∈ m, (pairsN d.map).length ≤ 240) → (volsS m).length ≤ 3000 * m.length := fun m => by
      induction m with
      | nil => intro _; simp [volsS]
      | cons d m ih =>
        intro hd
        have h2 := ih (fun x hx => hd x (by simp [hx]))
        have h3 := intsS_le (numsV d)
        have h4 := hd d (by simp)
        rw [numsV_len] at h3
        simp only [volsS, List.length_append, List.length_cons]; omega
    have h2 := key l (fun d hd => small_right (h.1 d hd) (hr d hd))
    omega
end Go.Proofs.Ytpcmihgfcaelfaa
namespace Go.Proofs.Ytpcmihgfcaelfaa
open Go.RowKit

def TxRel (w w1 : World) (l : List VoD) (N : Nat) (i : Value) (wr : World) : Prop :=
  ∃ k : Nat, k ≤ N ∧ i = .int .i64 k ∧ Lib.IsBuilderF 77 5 w1.heap.size w1.heap.size (Lib.byteCells (numS N ++ volsS (l.take k))) wr ∧ Below w.heap.size w wr ∧ w1.heap.size ≤ wr.heap.size
def TxIn (wo : World) (Bp : Nat) (pre : List Int) (ps : List PairD) (pv : Value) (np : Nat) (i v : Value) (wr : World) : Prop :=
  ∃ k : Nat, k ≤ np ∧ i = .int .i64 k ∧ wr.ownsRow wo.heap.size 3 1 v (2 + 2 * k) (intVs (pre ++ flatP (ps.take k))) ∧ wr.ownsRow Bp 66 2 pv np (pairRows ps).flatten ∧ Below wo.heap.size wo wr
theorem text_bound {l : List VoD} {k : Nat} (h : SmallTrees l) (h2 : l.length ≤ 64) (s : List UInt8) (hs : s.length ≤ 30000) : (Lib.byteCells (numS l.length ++ volsS (l.take k))).length + (⟨s.toArray⟩ : ByteArray).size ≤ 140737488355328 := by
  have h1 := textG_le (k := k) h h2
  rw [Lib.byteCells_length, ba_size]
  omega
theorem nums_bd {d : VoD} {w : World} {a b c : Value} (h1 : i64B d.id) (h2 : i64B d.size) (h : NodeAt w d.map a b c) : ∀ x ∈ numsV d, i64B x := fun x hx => by
  unfold numsV at hx
  simp only [List.mem_cons] at hx
  rcases hx with rfl | rfl | hx
  · exact h1
  · exact h2
  · exact flatP_bd _ (pairsN_bd _ h) x hx
theorem wrap_le1 {j n : Nat} (h : j ≤ n) (h2 : n ≤ 1000000) : wrap64 ((j : Int) + 1) = (j : Int) + 1 := by unfold wrap64; omega
theorem ints_two (W : World) (B : Nat) (x y : Int) (hB : B ≤ W.heap.size) : (W.alloc (.cells #[.int .i64 x, .int .i64 y] 3)).ownsRow B 3 1 (.slice (some ⟨W.heap.size, 0, none⟩) 2 2) 2 (intVs [x, y]) := by
  exact ⟨by simp [intVs], .inr ⟨W.heap.size, 2, #[.int .i64 x, .int .i64 y], rfl, hB, World.alloc_heap_new W _, Nat.le_refl _, by unfold maxLen; omega, rfl, by simp [intVs]⟩⟩
theorem text_start (l : List VoD) (n : Int) : [] ++ Lib.strCells (strN n) = Lib.byteCells (numS n ++ volsS (l.take 0)) := by
  rw [strN_cells, List.nil_append, List.take_zero, show volsS [] = [] from rfl, List.append_nil]
set_option maxRecDepth 100000 in
set_option maxHeartbeats 4000000 in
theorem pText_any (l : List VoD) (v1 : Value) (w : World) (h1 : VolsAt w v1 l) (l1 : SmallTrees l) : Calls Try.prog 14 #[v1] w fun e w' => e = .returned (.string ⟨(textV l).toArray⟩) ∧ Below w.heap.size w w' := by
  have HV := Lib.hid h1
  obtain ⟨p, cp, rfl, a1, a2, ha⟩ := h1
  have HA := Lib.hid ha
  obtain ⟨N, hN⟩ : ∃ N, l.length = N := ⟨_, rfl⟩
  rw [hN] at a1 HV; rw [hN]
  have HN := Lib.hid hN; have HL1 := Lib.hid l1; have HAC := Lib.hid (And.intro a1 a2)
  have HCN := Lib.hid (numP_any)
  clear ha hN a1 a2 l1
  go_enter Try.func14, Try.ntmps14
  go_wp2_with fail
  refine (vMay_any l _ _ (by have := HV.out; rwa [← HN.out] at this) HL1.out).mono ?_
  rintro e w1 ⟨rfl, hb⟩
  have HB := Lib.hid hb
  clear hb
  cases hm : mayVB l with
  | false =>
    have HF := Lib.hid (show textV l = [] by unfold textV; rw [hm]; rfl)
    clear hm
    go_wp2_with fail
    refine take_ret (v := .string ⟨#[]⟩) ⟨by rw [HF.out], HB.out⟩ ?_
    simp [results, Try.results14, go_sem]
  | true =>
  have HF := Lib.hid (show textV l = numS l.length ++ volsS l by unfold textV; rw [hm]; rfl)
  have HMY := Lib.hid (mayVB_iff.1 hm)
  have H64 := Lib.hid (show N ≤ 64 by rw [← HN.out]; exact HMY.out.2.2)
  clear hm
  have HBF0 : Hid (Lib.IsBuilderF 77 5 w1.heap.size w1.heap.size [] (w1.alloc (.cells #[.pointer none, .slice none 0 0] 77))) := Lib.hid (Lib.IsBuilderF.of (Lib.fresh_isBuilder _ _ w1))
  have HB0 := Lib.hid (show Below w1.heap.size w1 (w1.alloc (.cells #[.pointer none, .slice none 0 0] 77)) from (Below.refl _ _).alloc (Nat.le_refl _) _)
  go_wp2_with (first | (go_at_call 45; (with_reducible refine (HCN.out _ _).mono ?_); rintro e w2 ⟨rfl, hb2⟩) | (go_at_call 44; (with_reducible refine (Try.Builder_WriteString_f w1.heap.size w1.heap.size [] _ _ (bf_stay HBF0.out hb2) (ws_bound0 _) (Nat.le_trans HB0.out.size hb2.size)).mono ?_); rintro e w3 ⟨rfl, hbf3, hb3⟩))
  have HBF3 := Lib.hid (show Lib.IsBuilderF 77 5 w1.heap.size w1.heap.size (Lib.byteCells (numS N ++ volsS (l.take 0))) w3 from .inr (by rw [← text_start]; exact hbf3))
  have HB3 := Lib.hid (show Below w.heap.size w w3 from (btrans HB.out (HB0.out.trans (below_low hb2 HB0.out.size))).trans (hb3.mono HB.out.size))
  have HS3 := Lib.hid (show w1.heap.size ≤ w3.heap.size from Nat.le_trans HB0.out.size (Nat.le_trans hb2.size hb3.size))
  clear hbf3 hb2 hb3 HBF0 HB0
  go_loopw [18] (fun i wr => TxRel w w1 l N i wr) (fun i _ => N - (intOf i).toNat)
  case atStart => exact ⟨0, Nat.zero_le _, rfl, HBF3.out, HB3.out, HS3.out⟩
  case round =>
    obtain ⟨k, hk, rfl, hbf, hb, hs⟩ := hrel
    have HBF := Lib.hid hbf; have HBR := Lib.hid hb; have HSR := Lib.hid hs
    clear hbf hb hs HBF3 HB3 HS3
    by_cases hlt : k < N
    case neg =>
      obtain rfl : k = N := by omega
      have hmm : decide ((k : Int) < (k : Int)) = false := by simp
      have HT := Lib.hid (show textV l = numS k ++ volsS (l.take k) by rw [HF.out, HN.out, List.take_of_length_le (by rw [HN.out]; exact Nat.le_refl _)])
      go_wp2_with (go_at_call 48; (with_reducible refine (Try.Builder_String_any_f w1.heap.size w1.heap.size _ _ HBF.out HSR.out).mono ?_); rintro e w4 ⟨rfl, hbf4, hb4⟩)
      refine take_ret ⟨by rw [HT.out], HBR.out.trans (hb4.mono HB.out.size)⟩ ?_
      simp [results, Try.results14, go_sem]
    have hki : (k : Int) < (N : Int) := by omega
    have hwk : wrap64 ((k : Int) + 1) = (k : Int) + 1 := wrap_le1 hk (show N ≤ 1000000 by have := H64.out; omega)
    obtain ⟨s, hs⟩ : ∃ s, l[k]? = some s := ⟨_, List.getElem?_eq_getElem (by rw [HN.out]; omega)⟩
    obtain ⟨i1, i2, g, o, a, b, c, rfl, e0, e1, e2, e3, e4, e5⟩ := HA.out k s hs
    obtain ⟨pa, na, ca, pb, nb, cb, pc, nc, cc, rfl, rfl, rfl⟩ := node_slices e5
    obtain ⟨r0, r1, r2, r3, r4⟩ := V5.below ⟨e0, e1, e2, e3, e4⟩ HBR.out
    have HND := Lib.hid (And.intro i1 (And.intro i2 (e5.keep (keeps_below HBR.out))))
    have HS := Lib.hid hs; have HM := Lib.hid (HL1.out s (List.mem_of_getElem? hs)); have HRT := Lib.hid (HMY.out.1 s (List.mem_of_getElem? hs))
    clear hs e0 e1 e2 e3 e4 e5 i1 i2
    obtain ⟨SI, hSI⟩ : ∃ S, s.id = S := ⟨_, rfl⟩
    obtain ⟨SZ, hSZ⟩ : ∃ S, s.size = S := ⟨_, rfl⟩
    have HSE := Lib.hid (And.intro hSI hSZ)
    rw [hSI] at r0; rw [hSZ] at r1
    clear hSI hSZ
    obtain ⟨wo, hwo⟩ : ∃ W, W = wr := ⟨_, rfl⟩
    rw [← hwo] at r0 r1 r2 r3 r4 HND HBF HBR HSR ⊢
    clear hwo
    obtain ⟨W1, hW1⟩ : ∃ W1, wo.alloc (.cells #[.int .i64 SI, .int .i64 SZ, .slice pa na ca, .slice pb nb cb, .slice pc nc cc] 45) = W1 := ⟨_, rfl⟩
    have hb1 : Below wo.heap.size wo W1 := by rw [← hW1]; exact (Below.refl _ _).alloc (Nat.le_refl _) _
    have HX1 := Lib.hid (show VBox wo.heap.size (.int .i64 SI) (.int .i64 SZ) (.slice pa na ca) (.slice pb nb cb) (.slice pc nc cc) W1 by rw [← hW1]; exact ⟨by simp, by simp, by simp, by simp, by simp⟩)
    obtain ⟨W2, hW2⟩ : ∃ W2, W1.alloc (.cells #[.int .i64 SI, .int .i64 SZ] 3) = W2 := ⟨_, rfl⟩
    have hb2 : Below W1.heap.size W1 W2 := by rw [← hW2]; exact (Below.refl _ _).alloc (Nat.le_refl _) _
    have HO2 := Lib.hid (show W2.ownsRow wo.heap.size 3 1 (.slice (some ⟨W1.heap.size, 0, none⟩) 2 2) 2 (intVs [SI, SZ]) by rw [← hW2]; exact ints_two W1 _ SI SZ hb1.size)
    have HX2 := Lib.hid (HX1.out.below hb2)
    have HB2 := Lib.hid (btrans hb1 hb2)
    have HW1 := Lib.hid hW1; have HW2 := Lib.hid hW2
    clear hW1 hW2 hb1 hb2
    go_upto_region 8 with fail
    rw [HW1.out]
    clear r0 r1 r2 r3 r4
    obtain ⟨x0, x1, x2, x3, x4⟩ := HX1.out
    go_upto_region 9 with fail
    rw [HW2.out]
    clear x0 x1 x2 x3 x4
    obtain ⟨x0, x1, x2, x3, x4⟩ := HX2.out
    go_wp2_with (go_at_call 46; (with_reducible refine (walk_any s.map _ _ _ 0 SZ _ (HND.out.2.2.keep (keeps_below HB2.out)) (by have := HM.out; unfold SmallTree at this; omega)).mono ?_); rintro e w3 ⟨pv, rfl, hown, hb3⟩; rw [walk_right HRT.out HSE.out.2] at hown; obtain ⟨np, hnp⟩ : ∃ n, (pairsN s.map).length = n := ⟨_, rfl⟩; rw [hnp] at hown; obtain ⟨pq, cq, rfl⟩ : ∃ p c, pv = .slice p np c := (by rcases ow_slice hown with ⟨h, h2, _⟩ | ⟨g, c, h⟩; exact ⟨none, 0, by rw [h, h2]⟩; exact ⟨_, c, h⟩); have HOP := Lib.hid hown; have HNP := Lib.hid hnp; have HO3 := Lib.hid (own_belowP HO2.out hb3); have HB3 := Lib.hid (btrans HB2.out hb3); clear hown hnp hb3 x0 x1 x2 x3 x4)
    have HNS := Lib.hid (show np ≤ 2000 by rw [← HNP.out]; exact HM.out)
    go_loopw [33, 6] (fun i v wr => TxIn wo W2.heap.size [SI, SZ] (pairsN s.map) (.slice pq np cq) np i v wr) (fun i _ _ => np - (intOf i).toNat)
    case atStart => exact ⟨0, Nat.zero_le _, rfl, by rw [List.take_zero]; exact HO3.out, HOP.out, HB3.out⟩
    case round =>
      obtain ⟨j, hj, rfl, hown, hownp, hb4⟩ := hrel
      obtain ⟨pn, nn, cn, rfl⟩ := own_shape hown
      have HO4 := Lib.hid hown; have HOP4 := Lib.hid hownp; have HB4 := Lib.hid hb4
      clear hown hownp hb4 HO3 HOP HB3
      by_cases hlt2 : j < np
      case neg =>
        obtain rfl : j = np := by omega
        have hmm : decide ((j : Int) < (j : Int)) = false := by simp
        have HEQ := Lib.hid (show [SI, SZ] ++ flatP ((pairsN s.map).take j) = numsV s by
          rw [List.take_of_length_le (by rw [HNP.out]; exact Nat.le_refl _), ← HSE.out.1, ← HSE.out.2]; rfl)
        have HIA := Lib.hid (show IntsAt wr (.slice pn nn cn) (numsV s) from ints_of_row (nums_bd HND.out.1 HND.out.2.1 HND.out.2.2) (by
          have := HO4.out
          rw [HEQ.out] at this
          rw [numsV_len, HNP.out]; exact this))
        have HIL := Lib.hid (show (numsV s).length ≤ 1000000 by rw [numsV_len, HNP.out]; have := HNS.out; omega)
        have HSL := Lib.hid (show (intsS (numsV s)).length ≤ 30000 by have := intsS_le (numsV s); rw [numsV_len, HNP.out] at this; have := HNS.out; omega)
        have HT := Lib.hid (show l.take (k + 1) = l.take k ++ [s] by rw [List.take_add_one, HS.out]; rfl)
        go_wp2_with (first | (go_at_call 47; (with_reducible refine (ints_any (numsV s) _ _ HIA.out HIL.out).mono ?_); rintro e w5 ⟨rfl, hb5⟩) | (go_at_call 44; (with_reducible refine (Try.Builder_WriteString_f w1.heap.size w1.heap.size _ _ _ (bf_stay (bf_stay HBF.out HB4.out) hb5) (by have := text_bound (k := k) HL1.out (by rw [HN.out]; exact H64.out) _ HSL.out; rwa [HN.out] at this) (Nat.le_trans HSR.out (Nat.le_trans HB4.out.size hb5.size))).mono ?_); rintro e w6 ⟨rfl, hbf6, hb6⟩))
        go_roundw
        case rel => exact ⟨k + 1, by omega, by go_num, .inr (by rw [HT.out, volsS_snoc, ← List.append_assoc, Lib.byteCells_append, ← str_cells (s := intsS (numsV s))]; exact hbf6), ((HBR.out.trans (below_low HB4.out HBR.out.size)).trans (below_low hb5 (Nat.le_trans HBR.out.size HB4.out.size))).trans (below_low hb6 HB.out.size), Nat.le_trans HSR.out (Nat.le_trans HB4.out.size (Nat.le_trans hb5.size hb6.size))⟩
        case measure => first | exact meas_step hlt | (have hm := meas_step hlt; rw [← hwk] at hm; exact hm)
      case pos =>
        have hji : (j : Int) < (np : Int) := by omega
        have hwj := wrap_le1 hj (show np ≤ 1000000 by have := HNS.out; omega)
        obtain ⟨t, ht⟩ : ∃ t, (pairsN s.map)[j]? = some t := ⟨_, List.getElem?_eq_getElem (by rw [HNP.out]; exact hlt2)⟩
        obtain ⟨_, _, e, _, _, hp⟩ := pairs_of_row (l := pairsN s.map) (by rw [HNP.out]; exact HOP4.out)
        rw [HNP.out] at e
        injection e with e6 e7 e8
        subst e6; subst e8
        obtain ⟨g2, o2, rfl, y0, y1⟩ := hp j t ht
        have HTT := Lib.hid ht
        obtain ⟨W5, hW5⟩ : ∃ W, wr.alloc (.cells #[.int .i64 t.1, .int .i64 t.2] 66) = W := ⟨_, rfl⟩
        have hb5 : Below wr.heap.size wr W5 := by rw [← hW5]; exact (Below.refl _ _).alloc (Nat.le_refl _) _
        have z0 : W5.cell? ⟨wr.heap.size, 0, none⟩ = some (.int .i64 t.1) := by rw [← hW5]; simp
        have z1 : W5.cell? ⟨wr.heap.size, 1, none⟩ = some (.int .i64 t.2) := by rw [← hW5]; simp
        obtain ⟨g6, c6, w6, hrun, hown6, hb6, hoth⟩ := int_append2 W5 wo.heap.size (2 + 2 * j) _ _ t.1 t.2 (own_belowP HO4.out hb5) (by have := HNS.out; omega) (Nat.le_trans HB4.out.size hb5.size)
        have hop5 := own_belowP HOP4.out hb5
        have HRUN := Lib.hid hrun; have HO6 := Lib.hid hown6; have HOP6 := Lib.hid ((hoth _ _ _ _ _ _ hop5 (apart_type hop5 (own_belowP HO4.out hb5) (by decide))).1)
        have HB6 := Lib.hid (show Below wo.heap.size wo w6 from (HB4.out.trans (below_low hb5 HB4.out.size)).trans hb6)
        have HW5 := Lib.hid hW5
        have HT2 := Lib.hid (show (pairsN s.map).take (j + 1) = (pairsN s.map).take j ++ [t] by rw [List.take_add_one, ht]; rfl)
        have HZ := Lib.hid (And.intro z0 z1)
        obtain ⟨nq, hnq⟩ : ∃ q, 2 + 2 * j = q := ⟨_, rfl⟩
        rw [hnq] at HRUN HO6
        have HNQ := Lib.hid hnq
        clear hnq
        clear hrun hown6 hb6 hoth hop5 hW5 hb5 ht hp z0 z1
        go_upto_region 12 with fail
        rw [HW5.out]
        clear y0 y1
        obtain ⟨z0, z1⟩ := HZ.out
        go_wp2_with (at_builtin; refine Lib.wpList_append_run _ rfl _ _ _ _ rfl _ _ rfl rfl _ _ HRUN.out ?_)
        go_roundw
        case rel => exact ⟨j + 1, by omega, by go_num, by rw [HT2.out, flatP_snoc, ← List.append_assoc, show 2 + 2 * (j + 1) = nq + 2 by have := HNQ.out; omega]; exact HO6.out, HOP6.out, HB6.out⟩
        case measure => first | exact meas_step hlt2 | (have hm := meas_step hlt2; rw [← hwj] at hm; exact hm)
end Go.Proofs.Ytpcmihgfcaelfaa
namespace Go.Proofs.Ytpcmihgfcaelfaa
open Go.RowKit

def PtabPost (w : World) (l : List VoD) (c : Int) (e : Ending) (w' : World) : Prop := match tablesQ l c with
  | none => e = .returned (.tuple #[.slice none 0 0, .bool false]) ∧ Below w.heap.size w w'
  | some T => ∃ v, e = .returned (.tuple #[v, .bool true]) ∧ TabsAt w' v T ∧ Below w.heap.size w w'
theorem PtabPost.no {w w' : World} {l : List VoD} {c : Int} (h : tablesQ l c = none) (hb : Below w.heap.size w w') : PtabPost w l c (.returned (.tuple #[.slice none 0 0, .bool false])) w' := by
  unfold PtabPost; rw [h]; exact ⟨rfl, hb⟩
theorem PtabPost.yes {w w' : World} {l : List VoD} {c : Int} {T : List (List UseD)} {v : Value} (h : tablesQ l c = some T) (ht : TabsAt w' v T) (hb : Below w.heap.size w w') : PtabPost w l c (.returned (.tuple #[v, .bool true])) w' := by
  unfold PtabPost; rw [h]; exact ⟨v, rfl, ht, hb⟩
theorem tablesQ_low {l : List VoD} {c : Int} (h : c < 1) : tablesQ l c = none := by unfold tablesQ; rw [if_neg (by omega)]
theorem tablesQ_high {l : List VoD} {c : Int} (h : 1000 < c) : tablesQ l c = none := by unfold tablesQ; rw [if_neg (by omega)]
theorem tablesQ_bad {l : List VoD} {c : Int} (h : mayVB l = false) : tablesQ l c = none := by unfold tablesQ; rw [if_neg (by rw [h]; simp)]
theorem tablesQ_go {l : List VoD} {n : Nat} (h1 : 1 ≤ n) (h2 : n ≤ 1000) (h : mayVB l = true) : tablesQ l n = match tabsG n (List.replicate n []) (countsV l) with
    | none => none
    | some T => if T.all mayT = true then some T else none := by unfold tablesQ; rw [if_pos ⟨by omega, by omega, h⟩]; rfl
def TbRel (w w4 : World) (n g N : Nat) (C : List PairD) (i : Value) (wr : World) : Prop :=
  ∃ (k : Nat) (T : List (List UseD)), k ≤ N ∧ i = .int .i64 k ∧ OwnTabs wr g w4.heap.size g n T ∧ (∀ t ∈ T, t.length ≤ k) ∧ tabsG n (List.replicate n []) C = tabsG n T (C.drop k) ∧ Mid g w4 wr ∧ Below w.heap.size w wr ∧ w4.heap.size ≤ wr.heap.size
def TcRel (w : World) (D n g : Nat) (T : List (List UseD)) (i : Value) (wr : World) : Prop :=
  ∃ k : Nat, k ≤ n ∧ i = .int .i64 k ∧ OwnTabs wr g D g n T ∧ (∀ (j : Nat) t, j < k → T[j]? = some t → mayT t = true) ∧ Below w.heap.size w wr
theorem push_lens {T : List (List UseD)} {c k : Nat} {t : List UseD} {u : UseD} (h : ∀ t ∈ T, t.length ≤ k) (ht : t ∈ T) : ∀ x ∈ T.set c (t ++ [u]), x.length ≤ k + 1 := fun x hx => by
  rcases List.mem_or_eq_of_mem_set hx with hx | rfl
  · have := h x hx; omega
  · have := h t ht; simp; omega
theorem ref_bds {n : Int} (h : ofB n = true) : -9223372036854775808 ≤ n ∧ n ≤ 9223372036854775807 ∧ 0 ≤ (refOf n).chunk ∧ (refOf n).chunk ≤ 999 ∧ 1 ≤ (refOf n).size ∧ (refOf n).size ≤ 256 ∧ 0 ≤ (refOf n).pos := by
  have h1 := ofB_bd h
  unfold ofB at h
  simp only [Bool.and_eq_true] at h
  have h2 := (refMay_iff _).1 h.2
  omega
/-- the box of a use -/
def UsBlk (W : World) (B : Nat) (u0 u1 u2 u3 : Value) : Prop := W.heap[B]? = some (.cells #[u0, u1, u2, u3] 37 (0, 0))
theorem UsBlk.lt {W : World} {B : Nat} {u0 u1 u2 u3 : Value} (h : UsBlk W B u0 u1 u2 u3) : B < W.heap.size := (Array.getElem?_eq_some_iff.1 h).1
theorem UsBlk.cells {W : World} {B : Nat} {u0 u1 u2 u3 : Value} (h : UsBlk W B u0 u1 u2 u3) : W.cell? ⟨B, 0, none⟩ = some u0 ∧ W.cell? ⟨B, 1, none⟩ = some u1 ∧ W.cell? ⟨B, 2, none⟩ = some u2 ∧ W.cell? ⟨B, 3, none⟩ = some u3 := by
  simp [World.cell?, show W.heap[B]? = _ from h]
theorem UsBlk.frozen {W : World} {B : Nat} {u0 u1 u2 u3 : Value} (h : UsBlk W B u0 u1 u2 u3) (j : Nat) : W.frozen? ⟨B, j, none⟩ = false := by simp [World.frozen?, show W.heap[B]? = _ from h]
theorem UsBlk.new (W : World) (u0 u1 u2 u3 : Value) : UsBlk (W.alloc (.cells #[u0, u1, u2, u3] 37)) W.heap.size u0 u1 u2 u3 := World.alloc_heap_new _ _
theorem UsBlk.low {W W' : World} {B D : Nat} {u0 u1 u2 u3 : Value} (h : UsBlk W B u0 u1 u2 u3) (hb : Below D W W') (hD : B < D) : UsBlk W' B u0 u1 u2 u3 := (hb.block B hD).trans h
theorem UsBlk.set0 {W : World} {B : Nat} {u0 u1 u2 u3 : Value} (v : Value) (h : UsBlk W B u0 u1 u2 u3) : UsBlk (W.setCell ⟨B, 0, none⟩ v) B v u1 u2 u3 := by
  obtain ⟨hlt, hk⟩ := Array.getElem?_eq_some_iff.1 h
  show (W.heap.modify B _)[B]? = _
  rw [Array.getElem?_eq_getElem (by rw [Array.size_modify]; exact hlt), Array.getElem_modify_self, hk]
  rfl
theorem UsBlk.set1 {W : World} {B : Nat} {u0 u1 u2 u3 : Value} (v : Value) (h : UsBlk W B u0 u1 u2 u3) : UsBlk (W.setCell ⟨B, 1, none⟩ v) B u0 v u2 u3 := by
  obtain ⟨hlt, hk⟩ := Array.getElem?_eq_some_iff.1 h
  show (W.heap.modify B _)[B]? = _
  rw [Array.getElem?_eq_getElem (by rw [Array.size_modify]; exact hlt), Array.getElem_modify_self, hk]
  rfl
theorem UsBlk.set2 {W : World} {B : Nat} {u0 u1 u2 u3 : Value} (v : Value) (h : UsBlk W B u0 u1 u2 u3) : UsBlk (W.setCell ⟨B, 2, none⟩ v) B u0 u1 v u3 := by
  obtain ⟨hlt, hk⟩ := Array.getElem?_eq_some_iff.1 h
  show (W.heap.modify B _)[B]? = _
  rw [Array.getElem?_eq_getElem (by rw [Array.size_modify]; exact hlt), Array.getElem_modify_self, hk]
  rfl
theorem UsBlk.set3 {W : World} {B : Nat} {u0 u1 u2 u3 : Value} (v : Value) (h : UsBlk W B u0 u1 u2 u3) : UsBlk (W.setCell ⟨B, 3, none⟩ v) B u0 u1 u2 v := by
  obtain ⟨hlt, hk⟩ := Array.getElem?_eq_some_iff.1 h
  show (W.heap.modify B _)[B]? = _
  rw [Array.getElem?_eq_getElem (by rw [Array.size_modify]; exact hlt), Array.getElem_modify_self, hk]
  rfl
theorem UsBlk.set {W : World} {B : Nat} {u0 u1 u2 u3 : Value} (v0 v1 v2 v3 : Value) (h : UsBlk W B u0 u1 u2 u3) : UsBlk ((((W.setCell ⟨B, 0, none⟩ v0).setCell ⟨B, 1, none⟩ v1).setCell ⟨B, 2, none⟩ v2).setCell ⟨B, 3, none⟩ v3) B v0 v1 v2 v3 :=
  (((h.set0 v0).set1 v1).set2 v2).set3 v3
theorem far4 {W : World} {B : Nat} {u v0 v1 v2 v3 : Value} {a : Addr} (h : W.cell? a = some u) (hne : a.block ≠ B) : ((((W.setCell ⟨B, 0, none⟩ v0).setCell ⟨B, 1, none⟩ v1).setCell ⟨B, 2, none⟩ v2).setCell ⟨B, 3, none⟩ v3).cell? a = some u :=
  set_far (set_far (set_far (set_far h hne) hne) hne) hne
theorem five_below {W W' : World} (hb : Below W.heap.size W W') {a b c d e : Addr} {u v x y z : Value} (h : W.cell? a = some u ∧ W.cell? b = some v ∧ W.cell? c = some x ∧ W.cell? d = some y ∧ W.cell? e = some z) : W'.cell? a = some u ∧ W'.cell? b = some v ∧ W'.cell? c = some x ∧ W'.cell? d = some y ∧ W'.cell? e = some z :=
  ⟨cell_stays hb h.1, cell_stays hb h.2.1, cell_stays hb h.2.2.1, cell_stays hb h.2.2.2.1, cell_stays hb h.2.2.2.2⟩
theorem five_set {W : World} {B p q : Nat} {i j k l m : Nat} {u v x y z v0 v1 v2 v3 : Value} (hp : p ≠ B) (hq : q ≠ B) (h : W.cell? ⟨p, i, none⟩ = some u ∧ W.cell? ⟨p, j, none⟩ = some v ∧ W.cell? ⟨p, k, none⟩ = some x ∧ W.cell? ⟨p, l, none⟩ = some y ∧ W.cell? ⟨q, m, none⟩ = some z) :
    ((((W.setCell ⟨B, 0, none⟩ v0).setCell ⟨B, 1, none⟩ v1).setCell ⟨B, 2, none⟩ v2).setCell ⟨B, 3, none⟩ v3).cell? ⟨p, i, none⟩ = some u ∧ ((((W.setCell ⟨B, 0, none⟩ v0).setCell ⟨B, 1, none⟩ v1).setCell ⟨B, 2, none⟩ v2).setCell ⟨B, 3, none⟩ v3).cell? ⟨p, j, none⟩ = some v ∧ ((((W.setCell ⟨B, 0, none⟩ v0).setCell ⟨B, 1, none⟩ v1).setCell ⟨B, 2, none⟩ v2).setCell ⟨B, 3, none⟩ v3).cell? ⟨p, k, none⟩ = some x ∧ ((((W.setCell ⟨B, 0, none⟩ v0).setCell ⟨B, 1, none⟩ v1).setCell ⟨B, 2, none⟩ v2).setCell ⟨B, 3, none⟩ v3).cell? ⟨p, l, none⟩ = some y ∧ ((((W.setCell ⟨B, 0, none⟩ v0).setCell ⟨B, 1, none⟩ v1).setCell ⟨B, 2, none⟩ v2).setCell ⟨B, 3, none⟩ v3).cell? ⟨q, m, none⟩ = some z :=
  ⟨far4 h.1 hp, far4 h.2.1 hp, far4 h.2.2.1 hp, far4 h.2.2.2.1 hp, far4 h.2.2.2.2 hq⟩
theorem five_set1 {W : World} {B c p q : Nat} {i j k l m : Nat} {u v x y z r : Value} (hp : p ≠ B) (hq : q ≠ B) (h : W.cell? ⟨p, i, none⟩ = some u ∧ W.cell? ⟨p, j, none⟩ = some v ∧ W.cell? ⟨p, k, none⟩ = some x ∧ W.cell? ⟨p, l, none⟩ = some y ∧ W.cell? ⟨q, m, none⟩ = some z) :
    (W.setCell ⟨B, c, none⟩ r).cell? ⟨p, i, none⟩ = some u ∧ (W.setCell ⟨B, c, none⟩ r).cell? ⟨p, j, none⟩ = some v ∧ (W.setCell ⟨B, c, none⟩ r).cell? ⟨p, k, none⟩ = some x ∧ (W.setCell ⟨B, c, none⟩ r).cell? ⟨p, l, none⟩ = some y ∧ (W.setCell ⟨B, c, none⟩ r).cell? ⟨q, m, none⟩ = some z :=
  ⟨set_far h.1 hp, set_far h.2.1 hp, set_far h.2.2.1 hp, set_far h.2.2.2.1 hp, set_far h.2.2.2.2 hq⟩
theorem five_alloc {W : World} {a b c d e : Addr} {u v x y z : Value} (o : Obj) (h : W.cell? a = some u ∧ W.cell? b = some v ∧ W.cell? c = some x ∧ W.cell? d = some y ∧ W.cell? e = some z) : (W.alloc o).cell? a = some u ∧ (W.alloc o).cell? b = some v ∧ (W.alloc o).cell? c = some x ∧ (W.alloc o).cell? d = some y ∧ (W.alloc o).cell? e = some z :=
  have hb : Below W.heap.size W (W.alloc o) := (Below.refl _ _).alloc (Nat.le_refl _) o
  ⟨cell_stays hb h.1, cell_stays hb h.2.1, cell_stays hb h.2.2.1, cell_stays hb h.2.2.2.1, cell_stays hb h.2.2.2.2⟩
set_option maxRecDepth 100000 in
set_option maxHeartbeats 4000000 in
theorem pTabsB_any (l : List VoD) (c : Int) (v1 : Value) (w : World) (h1 : VolsAt w v1 l) (l1 : BigTrees l) (l2 : mayVB l = true → (valsV l).length ≤ 600000) : Calls Try.prog 12 #[v1, .int .i64 c] w (PtabPost w l c) := by
  have HV := Lib.hid h1
  have HL1 := Lib.hid l1
  have HL2 := Lib.hid l2
  have HMAY := Lib.hid (fun (W : World) (h : Below w.heap.size w W) => vMayB_any l v1 W (h1.keep (keeps_below h)) l1)
  obtain ⟨p, cp, rfl, a1, a2, ha⟩ := h1
  obtain ⟨nl, hnl⟩ : ∃ N, l.length = N := ⟨_, rfl⟩
  rw [hnl] at a1 HV HMAY; rw [hnl]
  clear ha a1 a2 l1 l2 hnl
  by_cases h1 : c < 1
  · have HF := Lib.hid (tablesQ_low (l := l) h1)
    go_enter Try.func12, Try.ntmps12
    go_wp2_with fail
    refine take_ret (PtabPost.no HF.out (Below.refl _ _)) ?_
    simp [results, Try.results12, go_sem]
  by_cases h2 : (1000 : Int) < c
  · have HF := Lib.hid (tablesQ_high (l := l) h2)
    go_enter Try.func12, Try.ntmps12
    go_wp2_with fail
    refine take_ret (PtabPost.no HF.out (Below.refl _ _)) ?_
    simp [results, Try.results12, go_sem]
  cases hm : mayVB l with
  | false =>
    have HF := Lib.hid (tablesQ_bad (c := c) hm)
    have HM := Lib.hid hm
    clear hm
    go_enter Try.func12, Try.ntmps12
    go_wp2_with fail
    refine (HMAY.out _ (Below.refl _ _)).mono ?_
    rintro e w1 ⟨rfl, hb⟩
    rw [HM.out]
    have HB := Lib.hid hb; clear hb
    go_wp2_with fail
    refine take_ret (PtabPost.no HF.out HB.out) ?_
    simp [results, Try.results12, go_sem]
  | true =>
  obtain ⟨n, rfl⟩ : ∃ n : Nat, c = n := ⟨c.toNat, by omega⟩
  have HN := Lib.hid (show 1 ≤ n ∧ n ≤ 1000 by omega)
  have HF := Lib.hid (tablesQ_go HN.out.1 HN.out.2 hm)
  have HM := Lib.hid hm
  have HOK := Lib.hid (counts_ok hm)
  clear hm
  go_enter Try.func12, Try.ntmps12
  go_wp2_with fail
  refine (HMAY.out _ (Below.refl _ _)).mono ?_
  rintro e w2 ⟨rfl, hb⟩
  rw [HM.out]
  have HB2 := Lib.hid hb; clear hb
  obtain ⟨w3, hmk, hown3, hb3⟩ := tabs_start w2 n HN.out.2
  obtain ⟨g, hg⟩ : ∃ g, w2.heap.size = g := ⟨_, rfl⟩
  rw [hg] at hmk hown3 hb3
  have HO3 := Lib.hid hown3; have HB3 := Lib.hid (show Below w.heap.size w w3 from HB2.out.trans (hb3.mono (by rw [← hg]; exact HB2.out.size)))
  have HG := Lib.hid (show g < w3.heap.size from ((hown3 0).choose_spec.2.2.1.lt g rfl).2)
  have HWG := Lib.hid (show w.heap.size ≤ g by rw [← hg]; exact HB2.out.size)
  clear hown3 hb3 hg h1 h2
  obtain ⟨C, hC⟩ : ∃ C, countsV l = C := ⟨_, rfl⟩
  have HCL := Lib.hid (show C.length ≤ 600000 by rw [← hC]; exact counts_len HL2.out)
  rw [hC] at HF HOK
  have HC := Lib.hid hC
  clear hC
  go_wp2_with (go_at_call 36; (with_reducible refine (pcountsB_any l _ _ (HV.out.keep (keeps_below HB3.out)) HL1.out HL2.out).mono ?_); rintro e w4 ⟨v4, rfl, hp4, hge, hb4⟩; rw [HC.out] at hp4; have HP := Lib.hid hp4; obtain ⟨pq, cq, rfl, b1, b2, hpa⟩ := hp4; obtain ⟨N, hN⟩ : ∃ N, C.length = N := ⟨_, rfl⟩; rw [hN] at b1 HP hge HCL; rw [hN]; have HNC := Lib.hid hN; have HPA := Lib.hid hpa; have HGE := Lib.hid hge; have HB4 := Lib.hid hb4; have hlc : (N : Int) ≤ 9223372036854775807 := (by unfold maxLen at b2; omega); clear hN hpa hge hb4 b1 b2)
  have HO4 := Lib.hid (show OwnTabs w4 g w4.heap.size g n (List.replicate n []) from (HO3.out _).below HB4.out)
  have HB5 := Lib.hid (btrans HB3.out HB4.out)
  have HG4 := Lib.hid (show g < w4.heap.size from Nat.lt_of_lt_of_le HG.out HB4.out.size)
  clear hmk HV HMAY
  go_loopw [30] (fun i wr => TbRel w w4 n g N C i wr) (fun i _ => N - (intOf i).toNat)
  case atStart => exact ⟨0, _, Nat.zero_le _, rfl, HO4.out, fun t ht => by rw [List.mem_replicate] at ht; rw [ht.2]; exact Nat.zero_le _, by rw [List.drop_zero], Mid.refl _ _, HB5.out, Nat.le_refl _⟩
  case round =>
    obtain ⟨k, T, hk, rfl, hot, hlt, htg, hmid, hb, hsz⟩ := hrel
    have HOT := Lib.hid hot; have HLT := Lib.hid hlt; have HTG := Lib.hid htg; have HMID := Lib.hid hmid; have HBR := Lib.hid hb; have HSZ := Lib.hid hsz
    clear hot hlt htg hmid hb hsz HO4
    by_cases hlt : k < N
    case neg =>
      obtain rfl : k = N := by omega
      have hmm : decide ((k : Int) < (k : Int)) = false := by simp
      have HF2 := Lib.hid (show tablesQ l n = if T.all mayT = true then some T else none by
        rw [HF.out, HTG.out, List.drop_of_length_le (by rw [HNC.out]; exact Nat.le_refl _)]; rfl)
      have hnc : (n : Int) ≤ 9223372036854775807 := by have := HN.out; omega
      go_wp2_with fail
      go_loopw [70] (fun i wr => TcRel w w4.heap.size n g T i wr) (fun i _ => n - (intOf i).toNat)
      case atStart => exact ⟨0, Nat.zero_le _, rfl, HOT.out, fun j t hj => by omega, HBR.out⟩
      case round =>
        obtain ⟨j, hj, rfl, hot, hall, hb⟩ := hrel
        have HOJ := Lib.hid hot; have HALL := Lib.hid hall; have HBJ := Lib.hid hb
        clear hot hall hb
        by_cases hlt2 : j < n
        case neg =>
          obtain rfl : j = n := by omega
          have hmm2 : decide ((j : Int) < (j : Int)) = false := by simp
          have HQ := Lib.hid (show tablesQ l j = some T by
            rw [HF2.out, if_pos]
            rw [List.all_eq_true]
            intro t ht
            obtain ⟨i, hi⟩ := List.getElem?_of_mem ht
            exact HALL.out i t (by have := (List.getElem?_eq_some_iff.1 hi).1; rw [HOJ.out.len] at this; exact this) hi)
          go_wp2_with fail
          refine take_ret (PtabPost.yes HQ.out (HOJ.out.at HN.out.2) HBJ.out) ?_
          simp [results, Try.results12, go_sem]
        case pos =>
          have hji : (j : Int) < (n : Int) := by omega
          have hwj := wrap_le1 hj (show n ≤ 1000000 by have := HN.out; omega)
          obtain ⟨t, ht⟩ : ∃ t, T[j]? = some t := ⟨_, List.getElem?_eq_getElem (by rw [HOJ.out.len]; exact hlt2)⟩
          obtain ⟨r, hr, hor⟩ := HOJ.out.one ht
          have HU := Lib.hid (uses_of_row hor)
          have HT := Lib.hid ht
          clear hor ht
          cases hmt : mayT t with
          | false =>
            have HMT := Lib.hid hmt
            clear hmt
            have HQ := Lib.hid (show tablesQ l n = none by
              rw [HF2.out, if_neg]
              rw [List.all_eq_true]
              intro h
              have := h t (List.mem_of_getElem? HT.out)
              rw [HMT.out] at this; exact absurd this (by simp))
            go_wp2_with (go_at_call 39; (with_reducible refine (sMay_any t _ _ HU.out).mono ?_); rintro e w6 ⟨rfl, hb6⟩; rw [HMT.out]; have HB6 := Lib.hid hb6; clear hb6)
            refine take_ret (PtabPost.no HQ.out (btrans HBJ.out HB6.out)) ?_
            simp [results, Try.results12, go_sem]
          | true =>
            have HMT := Lib.hid hmt
            clear hmt
            go_wp2_with (go_at_call 39; (with_reducible refine (sMay_any t _ _ HU.out).mono ?_); rintro e w6 ⟨rfl, hb6⟩; rw [HMT.out]; have HB6 := Lib.hid hb6; clear hb6)
            go_roundw
            case rel => exact ⟨j + 1, by omega, by go_num, HOJ.out.below HB6.out, fun i x hi hx => by
              by_cases e : i = j
              · subst e; rw [HT.out] at hx; cases hx; exact HMT.out
              · exact HALL.out i x (by omega) hx, btrans HBJ.out HB6.out⟩
            case measure => first | exact meas_step hlt2 | (have hm := meas_step hlt2; rw [← hwj] at hm; exact hm)
    case pos =>
      have hki : (k : Int) < (N : Int) := by omega
      have hwk := wrap_le1 hk (show N ≤ 1000000 by have := HCL.out; omega)
      obtain ⟨⟨q1, q2⟩, ht⟩ : ∃ t, C[k]? = some t := ⟨_, List.getElem?_eq_getElem (by rw [HNC.out]; exact hlt)⟩
      have o1 := (HOK.out _ (List.mem_of_getElem? ht)).1
      simp only at o1
      have HRB := Lib.hid (ref_bds o1)
      obtain ⟨gp, op, rfl, y0, y1⟩ := HPA.out k _ ht
      simp only at y0 y1
      have hgp : g < gp := by have := HGE.out gp rfl; have := HG.out; omega
      replace y0 := HMID.out.cell y0 hgp
      replace y1 := HMID.out.cell y1 hgp
      obtain ⟨⟨ch, po, sz, pk⟩, hr⟩ : ∃ r, refOf q1 = r := ⟨_, rfl⟩
      rw [hr] at HRB
      obtain ⟨cn, rfl⟩ : ∃ cn : Nat, ch = cn := ⟨ch.toNat, by have := HRB.out; simp only at this; omega⟩
      have HRO := Lib.hid (show ofR q1 = ⟨cn, po, sz, pk⟩ by unfold ofR; rw [if_pos o1]; exact hr)
      have HTK := Lib.hid ht; have HOB := Lib.hid o1; have HRE := Lib.hid hr
      clear ht o1 hr hgp
      obtain ⟨W1, hW1⟩ : ∃ W1, wr.alloc (.cells #[.int .i64 q1, .int .i64 q2] 66) = W1 := ⟨_, rfl⟩
      have HB1 := Lib.hid (show Below wr.heap.size wr W1 by rw [← hW1]; exact (Below.refl _ _).alloc (Nat.le_refl _) _)
      have HX1 := Lib.hid (show W1.cell? ⟨wr.heap.size, 0, none⟩ = some (.int .i64 q1) ∧ W1.cell? ⟨wr.heap.size, 1, none⟩ = some (.int .i64 q2) by rw [← hW1]; exact ⟨by simp, by simp⟩)
      have HW1 := Lib.hid hW1
      clear hW1
      go_upto_region 7 with fail
      rw [HW1.out]
      clear y0 y1 HW1
      obtain ⟨x0, x1⟩ := HX1.out
      go_upto_region 8 with (go_at_call 37; (with_reducible refine (refof_any q1 HRB.out.1 HRB.out.2.1 _).mono ?_); rintro e w5 ⟨rfl, hb5⟩; rw [HRO.out, HOB.out]; simp only [RefD.agg]; have HB5' := Lib.hid (btrans HB1.out hb5); have HX5 := Lib.hid (cell_stays hb5 HX1.out.2); clear hb5)
      obtain ⟨W6, hW6⟩ : ∃ W6, w5.alloc (.cells #[.int .i64 cn, .int .i64 po, .int .i64 sz, .bool pk] 69) = W6 := ⟨_, rfl⟩
      have hb6 : Below w5.heap.size w5 W6 := by rw [← hW6]; exact (Below.refl _ _).alloc (Nat.le_refl _) _
      have HB6 := Lib.hid (btrans HB5'.out hb6)
      have HR6 := Lib.hid (show RBox w5.heap.size cn po sz pk W6 by rw [← hW6]; exact ⟨by simp, by simp, by simp, by simp⟩)
      have HX6 := Lib.hid (cell_stays hb6 HX5.out)
      rw [hW6]
      clear hW6 hb6 x0 x1
      have r0 := HR6.out.1
      by_cases hcn : cn < n
      case neg =>
        have hcni : (n : Int) ≤ (cn : Int) := by omega
        have HQ := Lib.hid (show tablesQ l n = none by
          rw [HF.out, HTG.out, tabsG_next HTK.out, if_neg]
          unfold inOk
          rw [HRE.out]
          simp only [Bool.and_eq_true, decide_eq_true_eq]
          omega)
        go_wp2_with fail
        refine take_ret (PtabPost.no HQ.out (btrans HBR.out HB6.out)) ?_
        simp [results, Try.results12, go_sem]
      case pos =>
      have hcni : (cn : Int) < (n : Int) := by omega
      obtain ⟨L, hL⟩ : ∃ L, secL sz = L := ⟨_, rfl⟩
      have HLN := Lib.hid hL
      have HBD := Lib.hid (show (-1000000 : Int) ≤ sz ∧ sz ≤ 1000000 by have := HRB.out; simp only at this; omega)
      clear hL
      go_upto_region 10 with fail
      clear r0
      have hdr : Below W6.heap.size W6 W6.drew := (Below.refl _ _).drew
      obtain ⟨r0, r1, r2, r3⟩ := HR6.out.below hdr
      have x1 := cell_stays hdr HX6.out
      clear hdr
      obtain ⟨WA, hWA⟩ : ∃ W, (W6.alloc (.cells #[.int .i64 0, .int .i64 0, .int .i64 0, .bool false] 37)).drew = W := ⟨_, rfl⟩
      have hbA : Below W6.heap.size W6 WA := by rw [← hWA]; exact ((Below.refl _ _).alloc (Nat.le_refl _) _).drew
      have HSA := Lib.hid (five_below hbA ⟨HR6.out.1, HR6.out.2.1, HR6.out.2.2.1, HR6.out.2.2.2, HX6.out⟩)
      have HUA := Lib.hid (show UsBlk WA W6.heap.size (.int .i64 0) (.int .i64 0) (.int .i64 0) (.bool false) by rw [← hWA]; exact UsBlk.new W6 _ _ _ _)
      have HBA := Lib.hid hbA
      have HNE := Lib.hid (show w5.heap.size ≠ W6.heap.size ∧ wr.heap.size ≠ W6.heap.size from ⟨fun e => by have := World.block_lt_of_cell? _ _ HR6.out.1; simp only at this; omega, fun e => by have := World.block_lt_of_cell? _ _ HX6.out; simp only at this; omega⟩)
      rw [← hWA] at HSA HUA HBA
      clear hbA
      clear hWA
      go_region_held3 (fun w' => w'.cell? ⟨w5.heap.size, 0, none⟩ = some (.int .i64 cn) ∧ w'.cell? ⟨w5.heap.size, 1, none⟩ = some (.int .i64 po) ∧ w'.cell? ⟨w5.heap.size, 2, none⟩ = some (.int .i64 sz) ∧ w'.cell? ⟨w5.heap.size, 3, none⟩ = some (.bool pk) ∧ w'.cell? ⟨wr.heap.size, 1, none⟩ = some (.int .i64 q2))
        (first | with_reducible exact ⟨r0, r1, r2, r3, x1⟩ | with_reducible exact HSA.out | with_reducible exact HS7.out | with_reducible exact five_alloc _ HS7.out | with_reducible exact five_set HNE.out.1 HNE.out.2 HS7.out)
        (first | ((with_reducible refine (len_b cn po sz L pk HBD.out.1 HBD.out.2 HLN.out W6.drew).mono ?_); rintro e w7 ⟨rfl, hb7⟩; have HS7 := Lib.hid (five_below hb7 ⟨r0, r1, r2, r3, x1⟩); have HB7 := Lib.hid (show Below W6.heap.size W6 w7 from btrans (Below.refl _ _).drew hb7); clear hb7) | ((with_reducible refine (len_b cn po sz L pk HBD.out.1 HBD.out.2 HLN.out (W6.alloc (.cells #[.int .i64 0, .int .i64 0, .int .i64 0, .bool false] 37)).drew).mono ?_); rintro e w7 ⟨rfl, hb7⟩; have HS7 := Lib.hid (five_below hb7 HSA.out); have HU7 := Lib.hid (HUA.out.low hb7 HUA.out.lt); have HB7 := Lib.hid (show Below W6.heap.size W6 w7 from btrans HBA.out hb7); obtain ⟨d0, d1, d2, d3⟩ := HU7.out.cells; have f0 := HU7.out.frozen 0; have f1 := HU7.out.frozen 1; have f2 := HU7.out.frozen 2; have f3 := HU7.out.frozen 3; clear hb7))

      all_goals
        first
        | (obtain ⟨bu, hbu⟩ : ∃ b, W6.heap.size = b := ⟨_, rfl⟩
           have hub := HU7.out.set (.int .i64 po) (.int .i64 L) (.int .i64 q2) (.bool true)
           have hs8 := five_set (v0 := .int .i64 po) (v1 := .int .i64 L) (v2 := .int .i64 q2) (v3 := .bool true) HNE.out.1 HNE.out.2 HS7.out
           have hb8 := set_below (set_below (set_below (set_below HB7.out 0 (.int .i64 po)) 1 (.int .i64 L)) 2 (.int .i64 q2)) 3 (.bool true)
           obtain ⟨W8, hW8⟩ : ∃ W, (((w7.setCell ⟨W6.heap.size, 0, none⟩ (.int .i64 po)).setCell ⟨W6.heap.size, 1, none⟩ (.int .i64 L)).setCell ⟨W6.heap.size, 2, none⟩ (.int .i64 q2)).setCell ⟨W6.heap.size, 3, none⟩ (.bool true) = W := ⟨_, rfl⟩
           rw [hW8] at hub hs8 hb8 ⊢
           have HBU := Lib.hid (show W6.heap.size ≤ bu from Nat.le_of_eq hbu)
           rw [hbu] at hub ⊢
           clear hW8 hbu d0 d1 d2 d3 f0 f1 f2 f3 HU7)
        | (obtain ⟨bu, hbu⟩ : ∃ b, w7.heap.size = b := ⟨_, rfl⟩
           have hub := UsBlk.new w7 (.int .i64 po) (.int .i64 L) (.int .i64 q2) (.bool true)
           have hs8 := five_alloc (.cells #[.int .i64 po, .int .i64 L, .int .i64 q2, .bool true] 37) HS7.out
           have hb8 := HB7.out.alloc HB7.out.size (.cells #[.int .i64 po, .int .i64 L, .int .i64 q2, .bool true] 37)
           obtain ⟨W8, hW8⟩ : ∃ W, w7.alloc (.cells #[.int .i64 po, .int .i64 L, .int .i64 q2, .bool true] 37) = W := ⟨_, rfl⟩
           rw [hW8] at hub hs8 hb8 ⊢
           have HBU := Lib.hid (show W6.heap.size ≤ bu by rw [← hbu]; exact HB7.out.size)
           rw [hbu] at hub ⊢
           clear hW8 hbu)
        have HU8 := Lib.hid hub; have HS8 := Lib.hid hs8; have HB8 := Lib.hid (btrans HB6.out hb8)
        clear hub hs8 hb8 r0 r1 r2 r3 x1 HSA HUA HBA HS7 HB7
        obtain ⟨t, ht⟩ : ∃ t, T[cn]? = some t := ⟨_, List.getElem?_eq_getElem (by rw [HOT.out.len]; exact hcn)⟩
        obtain ⟨r, c1, g9, c9, w9, hrun, hcr, hfr, hot9, hb9, hkeep⟩ := tabs_push wr W8.drew g w4.heap.size g n cn T t (po, L, q2, true) (btrans HB8.out (Below.refl _ _).drew) HOT.out ht (by have := HLT.out t (List.mem_of_getElem? ht); have := HCL.out; omega) HSZ.out
        obtain ⟨tl, htl⟩ : ∃ n, t.length + 1 = n := ⟨_, rfl⟩
        rw [htl] at hrun hot9
        have HRUN := Lib.hid hrun; have HOT9 := Lib.hid hot9
        have c2 : (W8.alloc (.cells #[.int .i64 po, .int .i64 L, .int .i64 q2, .bool true] 37)).drew.cell? ⟨g, cn, none⟩ = some r := cell_stays (Below.refl _ _).drew (cell_stays ((Below.refl _ _).alloc (Nat.le_refl _) _) (show W8.cell? ⟨g, cn, none⟩ = some r from c1))
        have hu8 := HU8.out.cells
        have hs0 := five_below (show Below W8.heap.size W8 W8.drew from (Below.refl _ _).drew) ⟨hu8.1, hu8.2.1, hu8.2.2.1, hu8.2.2.2, HS8.out.1⟩
        have HSB := Lib.hid (five_below (show Below W8.heap.size W8 (W8.alloc (.cells #[.int .i64 po, .int .i64 L, .int .i64 q2, .bool true] 37)).drew from ((Below.refl _ _).alloc (Nat.le_refl _) _).drew) ⟨hu8.1, hu8.2.1, hu8.2.2.1, hu8.2.2.2, HS8.out.1⟩)
        have hlo : wr.heap.size ≤ bu := Nat.le_trans HB6.out.size HBU.out
        have hlo5 : wr.heap.size ≤ w5.heap.size := HB5'.out.size
        have hgw : g < wr.heap.size := Nat.lt_of_lt_of_le HG4.out HSZ.out
        have HSC := Lib.hid (And.intro (hkeep _ _ hlo hs0.1) (And.intro (hkeep _ _ hlo hs0.2.1) (And.intro (hkeep _ _ hlo hs0.2.2.1) (And.intro (hkeep _ _ hlo hs0.2.2.2.1) (hkeep _ _ hlo5 hs0.2.2.2.2)))))
        have HNG := Lib.hid (show bu ≠ g ∧ w5.heap.size ≠ g from ⟨by omega, by omega⟩)
        have HMID9 := Lib.hid (show Mid g w4 (w9.setCell ⟨g, cn, none⟩ (.slice (some ⟨g9, 0, none⟩) tl c9)) from HMID.out.step HSZ.out (show Below wr.heap.size wr W8.drew from btrans HB8.out (Below.refl _ _).drew) (Nat.le_refl _) hb9)
        have HB9 := Lib.hid (show Below w.heap.size w (w9.setCell ⟨g, cn, none⟩ (.slice (some ⟨g9, 0, none⟩) tl c9)) from ((HBR.out.trans ((btrans HB8.out (Below.refl _ _).drew).mono HBR.out.size)).trans (hb9.mono HB5.out.size)).grown (grown_set w9 g cn _) (Nat.le_trans HBR.out.size (Nat.le_trans HB8.out.size hb9.size)) (fun k e => by cases e; exact HWG.out))
        have HSZ9 := Lib.hid (show w4.heap.size ≤ (w9.setCell ⟨g, cn, none⟩ (.slice (some ⟨g9, 0, none⟩) tl c9)).heap.size from Nat.le_trans HSZ.out (Nat.le_trans HB8.out.size (Nat.le_trans hb9.size (grown_set w9 g cn _).size)))
        have HLT9 := Lib.hid (push_lens (c := cn) (u := (po, L, q2, true)) HLT.out (List.mem_of_getElem? ht))
        have HTG9 := Lib.hid (show tabsG n (List.replicate n []) C = tabsG n (T.set cn (t ++ [(po, L, q2, true)])) (C.drop (k + 1)) by
          rw [HTG.out, tabsG_next HTK.out, if_pos (by unfold inOk; rw [HRE.out, HOB.out]; simp only [Bool.true_and, decide_eq_true_eq]; exact hcni)]
          unfold pushT chunkOf useOf
          simp only [HRE.out, HLN.out, Int.toNat_natCast, ht, Option.getD_some])
        clear hrun hot9 hb9 hkeep hu8 hlo hlo5 hgw
        go_wp2_with fail
        obtain ⟨u0, u1, u2, u3, x0⟩ := hs0
        obtain ⟨s0, s1, s2, s3, y0⟩ := HSB.out
        have z0 := HSC.out.2.2.2.2
        go_region_law (refine step_append_run rfl _ _ _ rfl rfl rfl HRUN.out ?_)
        all_goals
          go_wp2_with fail
          go_roundw
          case rel => exact ⟨k + 1, T.set cn (t ++ [(po, L, q2, true)]), by omega, by go_num, HOT9.out, HLT9.out, HTG9.out, HMID9.out, HB9.out, HSZ9.out⟩
          case measure => first | exact meas_step hlt | (have hm := meas_step hlt; rw [← hwk] at hm; exact hm)
theorem pTabs_any (l : List VoD) (c : Int) (v1 : Value) (w : World) (h1 : VolsAt w v1 l) (l1 : SmallTrees l) : Calls Try.prog 12 #[v1, .int .i64 c] w (PtabPost w l c) :=
  pTabsB_any l c v1 w h1 (fun d hd => (l1 d hd).big) fun hm => vals_small l1 (mayVB_iff.1 hm).2.2
end Go.Proofs.Ytpcmihgfcaelfaa
