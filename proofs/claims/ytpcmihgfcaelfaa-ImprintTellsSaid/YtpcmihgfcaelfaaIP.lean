/- Of any law: a call that returned true and turned nothing that was there meets the row's 'post'. No program in sight. · Arguments that are volumes, opened to plain data: trees by the reading's fuel. · Layer 20's seat: a world for the witness; the rows list no table. -/
import Derived.ProofKit
import Derived.Carry
import Derived.Test.YtpcmihgfcaelfaaIA
import Derived.Test.YtpcmihgfcaelfaaProg
import Derived.Deep.Slices
import Derived.Deep.Fields
import Derived.ChangeSame
import Derived.OpenShut
import Derived.Test.YtpcmihgfcaelfaaRows
import Derived.Deep.DeepHandedRow
namespace Go.Proofs.Ytpcmihgfcaelfaa
open Go.ChangeShapes Go.WideShapes Go.ChangeAt Go.RowKit

theorem trodAll_below {H : Type} {enc : TypeId × Value → H} {P : Program} (hl : laidOutB P = true) {W W' : World} (hb : Below W.heap.size W W') :
    ∀ (ts : List TypeId) (vs : List Value) (ds : List (DataW H)) (p : List MemPlace), (∀ t ∈ ts, P.readableRec t = true ∧ t < P.types.size) →
      DataW.TrodAll enc P W 0 (fun _ => true) true ts vs ds p → (∀ x ∈ p, x.block < W.heap.size) → DataW.TrodAll enc P W' 0 (fun b => decide (b < W.heap.size)) true ts vs ds p
  | [], [], [], p, _, h, _ => h
  | t :: ts, v :: vs, d :: ds, p, ht, h, hp => by
    obtain ⟨p1, p2, h1, h2, rfl⟩ := h
    refine ⟨p1, p2, Below.trod hl (ht t (by simp)).1 (ht t (by simp)).2 h1 hb (fun x hx => hp x (by simp [hx])), ?_, rfl⟩
    exact trodAll_below hl hb ts vs ds p2 (fun t h => ht t (by simp [h])) h2 (fun x hx => hp x (by simp [hx]))
  | [], _ :: _, _, _, _, h, _ => by cases h
  | [], [], _ :: _, _, _, h, _ => by cases h
  | _ :: _, [], _, _, _, h, _ => by cases h
  | _ :: _, _ :: _, [], _, _, h, _ => by cases h

theorem law_post {H : Type} {enc : TypeId × Value → H} {P : Program} (hl : laidOutB P = true) {f : Func} {s : ChangeSpec} {W W' : World} {args : Array Value} {ds gs : List (DataW H)} {before : List MemPlace} {t4 : TypeId}
    (hts : ∀ t ∈ f.params.toList, P.readableRec t = true ∧ t < P.types.size) (hvars : s.vars = []) (hres : f.resultTypes = #[t4]) (h4 : P.underlying t4 = some .bool)
    (hW : DataW.Whole enc P f.params.toList s.vars false W args.toList ds gs before) (hb : Below W.heap.size W W')
    (hfn : s.fn H (ds ++ gs) = { results := [.lit (.bool true)], args := ds }) :
    s.post enc P f false true false false W args (.bool true) W' := by
  have hW' := hW
  obtain ⟨p, q, hA, hV, rfl, hz, hn⟩ := hW
  have hlt : ∀ x ∈ p, x.block < W.heap.size := fun x hx => by simpa using hW'.lt x (by simp [hx])
  refine ⟨ds, gs, p ++ q, [], p, [], hW', ?_, ?_, ?_, hb.frame _, fun h => by cases h⟩
  · rw [hres, hfn]
    exact trodAll_mk1 (shut_bool h4 _)
  · rw [hfn]
    exact trodAll_below hl hb _ _ _ _ hts hA hlt
  · rw [hvars, hfn]; rfl
end Go.Proofs.Ytpcmihgfcaelfaa
namespace Go.Proofs.Ytpcmihgfcaelfaa
open Go.RowKit Go.ChangeShapes Go.WideShapes Go.Deep

section
variable {H : Type} {enc : TypeId × Value → H} {P : Program} {w : World} {base : Nat} {spare : Nat → Bool} {held : Bool}
theorem open_cells {t e k : Nat} {fuel : Nat} {v : Value} {x : DataW H × List MemPlace} (ht : P.underlying t = some (.slice e)) (hC : P.cellsOf e = k) (hk : 0 < k) (h : DataW.trod enc P w base spare held fuel t [v] = some x) :
    v = .slice none 0 0 ∨ ∃ (g o len cap n : Nat), fuel = n + 1 ∧ (v = .slice (some ⟨g, o, none⟩) len cap ∨ len = 0 ∧ ∃ a, v = .slice (some a) 0 cap) ∧ len ≤ cap ∧ cap ≤ maxLen ∧
      ∀ i, i < len → ∃ cs : List Value, cs.length = k ∧ (∀ (j : Nat) u, cs[j]? = some u → w.cell? ⟨g, o + (i * k + j), none⟩ = some u) ∧ ∃ y, DataW.trod enc P w base spare held n e cs = some y := by
  rcases DataW.trod_slice ht h with h0 | ⟨a, len, cap, elems, rest, n, hf, hcs, hx, hb, hl, hm, hlen, hel, _, _⟩
  · left; exact List.head_eq_of_cons_eq h0.1
  · right
    have hv : v = .slice (some a) len cap := List.head_eq_of_cons_eq hcs
    have key : ∀ i, i < len → ∃ cs : List Value, cs.length = k ∧ (∀ (j : Nat) u, cs[j]? = some u → w.cell? (a.add (i * k + j)) = some u) ∧ ∃ y, DataW.trod enc P w base spare held n e cs = some y := by
      intro i hi
      have h1 := hel i hi
      rw [List.getElem?_eq_getElem (by omega), Option.bind_eq_some_iff] at h1
      obtain ⟨cs, hc, hy⟩ := h1
      rw [hC] at hc
      obtain ⟨_, hcl, hat⟩ := World.cells?_some hc
      refine ⟨cs, hcl, fun j u hu => ?_, _, hy⟩
      have hj := (List.getElem?_eq_some_iff.1 hu).1
      rw [← Go.Deep.add_add, hat j (by omega), hu]
    obtain ⟨b, o, sp⟩ := a
    by_cases h0 : 0 < len
    · obtain ⟨cs, hcl, hat, _⟩ := key 0 h0
      have hspot : sp = none := by
        have := hat 0 cs[0] (List.getElem?_eq_getElem (by omega))
        simpa [Addr.add] using World.cell?_spot this
      subst hspot
      refine ⟨b, o, len, cap, n, hf, .inl hv, hl, hm, fun i hil => ?_⟩
      obtain ⟨cs, hcl, hat, hy⟩ := key i hil
      exact ⟨cs, hcl, fun j u hu => by have := hat j u hu; rw [Go.WideShapes.add_plain] at this; exact this, hy⟩
    · obtain rfl : len = 0 := by omega
      exact ⟨b, o, 0, cap, n, hf, .inr ⟨rfl, _, hv⟩, hl, hm, fun i hil => absurd hil (by omega)⟩
theorem trod_field {fs : Array Field} {cs : List Value} {xs : List (DataW H × List MemPlace)} {n j T off k : Nat} (hj : (fs[j]?).map (fun f => (f.type, f.offset)) = some (T, off)) (hC : P.cellsOf T = k)
    (hf : ∀ (i : Nat) (f : Field), fs[i]? = some f → DataW.trod enc P w base spare held n f.type ((cs.drop f.offset).take (P.cellsOf f.type)) = xs[i]?) : DataW.trod enc P w base spare held n T ((cs.drop off).take k) = xs[j]? := by
  rw [Option.map_eq_some_iff] at hj
  obtain ⟨f, hf1, hf2⟩ := hj
  simp only [Prod.mk.injEq] at hf2
  have := hf j f hf1
  rw [hf2.1, hf2.2, hC] at this
  exact this
theorem list_of {α : Type} (n : Nat) (p : Nat → α → Prop) (h : ∀ i, i < n → ∃ x, p i x) : ∃ l : List α, l.length = n ∧ ∀ i x, l[i]? = some x → p i x := by
  induction n with
  | zero => exact ⟨[], rfl, fun i x hx => by simp at hx⟩
  | succ n ih =>
    obtain ⟨l, hl, hp⟩ := ih fun i hi => h i (by omega)
    obtain ⟨x, hx⟩ := h n (by omega)
    refine ⟨l ++ [x], by simp [hl], fun i y hy => ?_⟩
    by_cases hi : i < n
    · rw [List.getElem?_append_left (by omega)] at hy; exact hp i y hy
    · rw [List.getElem?_append_right (by omega)] at hy
      cases hj : i - l.length with
      | zero =>
        rw [hj] at hy
        simp only [List.getElem?_cons_zero, Option.some.injEq] at hy
        subst hy
        obtain rfl : i = n := by omega
        exact hx
      | succ j => rw [hj] at hy; simp at hy
end
section
variable {H : Type} {enc : TypeId × Value → H} {w : World} {spare : Nat → Bool} {held : Bool}
theorem lit_bounds {n : Int} (h : (Lit.int .i64 n).wf = true) : i64B n := by
  have h2 : IntKind.min .i64 ≤ n ∧ n ≤ IntKind.max .i64 := by simpa [Lit.wf] using h
  have e1 : IntKind.min .i64 = -9223372036854775808 := by decide
  have e2 : IntKind.max .i64 = 9223372036854775807 := by decide
  rwa [e1, e2] at h2
theorem open_z {n : Nat} {u : Value} {y : DataW H × List MemPlace} (h : DataW.trod enc Try.prog w 0 spare held n 3 [u] = some y) : ∃ z : Int, u = .int .i64 z ∧ i64B z := by
  obtain ⟨z, e, _, b⟩ := DataW.trod_int Try.underlying3 h
  exact ⟨z, List.head_eq_of_cons_eq e, lit_bounds b⟩
theorem cells_int : Try.prog.cellsOf 3 = 1 := by kernel_rfl
theorem cells_node : Try.prog.cellsOf 43 = 3 := by kernel_rfl
theorem cells_vol : Try.prog.cellsOf 45 = 5 := by kernel_rfl
theorem cells_ints : Try.prog.cellsOf 40 = 1 := by kernel_rfl
theorem cells_nodes : Try.prog.cellsOf 41 = 1 := by kernel_rfl
theorem open_zs {n : Nat} {v : Value} {y : DataW H × List MemPlace} (h : DataW.trod enc Try.prog w 0 spare held n 40 [v] = some y) : ∃ l, IntsAt w v l := by
  rcases open_cells Try.underlying40 cells_int (by omega) h with h0 | ⟨g, o, len, cap, n', _, hv, hl, hm, hf⟩
  · exact ⟨[], none, 0, h0, Nat.le_refl _, Nat.zero_le _, fun i d hd => by simp at hd⟩
  · obtain ⟨l, hll, hp⟩ := list_of len (fun i (z : Int) => i64B z ∧ w.cell? ⟨g, o + i, none⟩ = some (.int .i64 z)) (fun i hi => by
      obtain ⟨cs, hcl, hat, y', hy⟩ := hf i hi
      match cs, hcl with
      | [u], _ =>
        obtain ⟨z, rfl, hz⟩ := open_z hy
        exact ⟨z, hz, by have := hat 0 _ rfl; rw [Nat.mul_one, Nat.add_zero] at this; exact this⟩)
    rcases hv with hv | ⟨h0, a, hv⟩
    · exact ⟨l, _, cap, by rw [hll]; exact hv, by rw [hll]; exact hl, hm, fun i z hz => ⟨(hp i z hz).1, g, o, rfl, (hp i z hz).2⟩⟩
    · subst h0
      obtain rfl : l = [] := List.eq_nil_of_length_eq_zero hll
      exact ⟨[], _, cap, hv, Nat.zero_le _, hm, fun i d hd => by simp at hd⟩
theorem open_node : ∀ (n : Nat) (a b c : Value) (y : DataW H × List MemPlace), DataW.trod enc Try.prog w 0 spare held n 43 [a, b, c] = some y → ∃ t, NodeAt w t a b c := by
  intro n
  induction n using Nat.strongRecOn with
  | _ n ih =>
    intro a b c y h
    obtain ⟨xs, m, rfl, _, _, hlen, hf⟩ := DataW.trod_struct Try.underlying43 h
    have h0 := trod_field (j := 0) (T := 40) (off := 0) rfl cells_ints hf
    have h1 := trod_field (j := 1) (T := 40) (off := 1) rfl cells_ints hf
    have h2 := trod_field (j := 2) (T := 41) (off := 2) rfl cells_nodes hf
    have h0' : DataW.trod enc Try.prog w 0 spare held m 40 [a] = xs[0]? := h0
    have h1' : DataW.trod enc Try.prog w 0 spare held m 40 [b] = xs[1]? := h1
    have h2' : DataW.trod enc Try.prog w 0 spare held m 41 [c] = xs[2]? := h2
    have hl3 : xs.length = 3 := hlen
    rw [List.getElem?_eq_getElem (by omega)] at h0' h1' h2'
    obtain ⟨ks, hks⟩ := open_zs h0'
    obtain ⟨vs, hvs⟩ := open_zs h1'
    have hkids : ∃ l, NodesAt w c l := by
      rcases open_cells Try.underlying41 cells_node (by omega) h2' with h0 | ⟨g, o, len, cap, n', hn', hv, hl, hm, hf⟩
      · exact ⟨[], none, 0, h0, Nat.le_refl _, Nat.zero_le _, fun i d hd => by simp at hd⟩
      · obtain ⟨l, hll, hp⟩ := list_of len (fun i (t : NodeD) => KidAt w (some ⟨g, o, none⟩) i t) (fun i hi => by
          obtain ⟨cs, hcl, hat, y', hy⟩ := hf i hi
          match cs, hcl with
          | [x, y, z], _ =>
            obtain ⟨t, ht⟩ := ih n' (by omega) x y z _ hy
            exact ⟨t, g, o, x, y, z, rfl, hat 0 _ rfl, hat 1 _ rfl, hat 2 _ rfl, ht⟩)
        rcases hv with hv | ⟨h0, a, hv⟩
        · exact ⟨l, _, cap, by rw [hll]; exact hv, by rw [hll]; exact hl, hm, hp⟩
        · subst h0
          obtain rfl : l = [] := List.eq_nil_of_length_eq_zero hll
          exact ⟨[], _, cap, hv, Nat.zero_le _, hm, fun i d hd => by simp at hd⟩
    obtain ⟨kids, hkids⟩ := hkids
    exact ⟨.mk ks vs kids, nodeAt_iff.2 ⟨hks, hvs, hkids⟩⟩
theorem open_vol {n : Nat} {cs : List Value} {y : DataW H × List MemPlace} (hl : cs.length = 5) (h : DataW.trod enc Try.prog w 0 spare held n 45 cs = some y) : ∃ (d : VoD) (a b c : Value), cs = [.int .i64 d.id, .int .i64 d.size, a, b, c] ∧ i64B d.id ∧ i64B d.size ∧ NodeAt w d.map a b c := by
  match cs, hl with
  | [c0, c1, a, b, c], _ =>
    obtain ⟨xs, m, rfl, _, _, hlen, hf⟩ := DataW.trod_struct Try.underlying45 h
    have h0 := trod_field (j := 0) (T := 3) (off := 0) rfl cells_int hf
    have h1 := trod_field (j := 1) (T := 3) (off := 1) rfl cells_int hf
    have h2 := trod_field (j := 2) (T := 43) (off := 2) rfl cells_node hf
    have h0' : DataW.trod enc Try.prog w 0 spare held m 3 [c0] = xs[0]? := h0
    have h1' : DataW.trod enc Try.prog w 0 spare held m 3 [c1] = xs[1]? := h1
    have h2' : DataW.trod enc Try.prog w 0 spare held m 43 [a, b, c] = xs[2]? := h2
    have hl3 : xs.length = 3 := hlen
    rw [List.getElem?_eq_getElem (by omega)] at h0' h1' h2'
    obtain ⟨i, rfl, hi⟩ := open_z h0'
    obtain ⟨s, rfl, hs⟩ := open_z h1'
    obtain ⟨t, ht⟩ := open_node _ _ _ _ _ h2'
    exact ⟨⟨i, s, t⟩, a, b, c, rfl, hi, hs, ht⟩
theorem open_vols {n : Nat} {v : Value} {y : DataW H × List MemPlace} (h : DataW.trod enc Try.prog w 0 spare held n 22 [v] = some y) : ∃ l, VolsAt w v l := by
  rcases open_cells Try.underlying22 cells_vol (by omega) h with h0 | ⟨g, o, len, cap, n', _, hv, hl, hm, hf⟩
  · exact ⟨[], none, 0, h0, Nat.le_refl _, Nat.zero_le _, fun i d hd => by simp at hd⟩
  · obtain ⟨l, hll, hp⟩ := list_of len (fun i (d : VoD) => i64B d.id ∧ i64B d.size ∧ ∃ a b c, w.cell? ⟨g, o + i * 5, none⟩ = some (.int .i64 d.id) ∧ w.cell? ⟨g, o + i * 5 + 1, none⟩ = some (.int .i64 d.size) ∧ w.cell? ⟨g, o + i * 5 + 2, none⟩ = some a ∧ w.cell? ⟨g, o + i * 5 + 3, none⟩ = some b ∧ w.cell? ⟨g, o + i * 5 + 4, none⟩ = some c ∧ NodeAt w d.map a b c) (fun i hi => by
      obtain ⟨cs, hcl, hat, y', hy⟩ := hf i hi
      obtain ⟨d, a, b, c, rfl, h1, h2, h3⟩ := open_vol hcl hy
      exact ⟨d, h1, h2, a, b, c, hat 0 _ rfl, hat 1 _ rfl, hat 2 _ rfl, hat 3 _ rfl, hat 4 _ rfl, h3⟩)
    rcases hv with hv | ⟨h0, a, hv⟩
    · refine ⟨l, _, cap, by rw [hll]; exact hv, by rw [hll]; exact hl, hm, fun i d hd => ?_⟩
      obtain ⟨h1, h2, a, b, c, h3⟩ := hp i d hd
      exact ⟨h1, h2, g, o, a, b, c, rfl, h3⟩
    · subst h0
      obtain rfl : l = [] := List.eq_nil_of_length_eq_zero hll
      exact ⟨[], _, cap, hv, Nat.zero_le _, hm, fun i d hd => by simp at hd⟩
set_option maxRecDepth 100000 in
theorem open_volsA {r : Reach} {b0 : Nat} {v : Value} {d : DataW H} {ps : List MemPlace} (hv : Value.okWide Try.prog w r b0 22 v) (h : DataW.Trod enc Try.prog w 0 spare held 22 v d ps) : ∃ l, VolsAt w v l := by
  obtain ⟨A, n, cap, rfl⟩ := okWide_slice Try.underlying22 hv
  obtain ⟨fuel, h⟩ := h
  exact open_vols (n := fuel) h
end
end Go.Proofs.Ytpcmihgfcaelfaa
namespace Go.Proofs.Ytpcmihgfcaelfaa
open Go.Stop Go.ChangeShapes Go.WideShapes Go.ChangeAt Go.RowKit

theorem own : ownKnob Try.prog.godebug = none := by kernel_rfl
theorem laidOut : laidOutB Try.prog = true := by kernel_rfl
theorem laid_nil (W : World) : laidMetH Try.prog [] W := by
  show laidMet Try.prog [] W
  refine ⟨[], ?_, List.nodup_nil, fun b off h => by simp at h⟩
  simp [DataW.LaidVars]
theorem int_bounds {n : Int} (h : (Lit.int .i64 n).wf = true) : -9223372036854775808 ≤ n ∧ n ≤ 9223372036854775807 := lit_bounds h
/-- A world for the witness: the settled one. -/
noncomputable def laidWorld (os : Os) : World := World.holding Try.prog os ⟨#[], #[], []⟩
end Go.Proofs.Ytpcmihgfcaelfaa
