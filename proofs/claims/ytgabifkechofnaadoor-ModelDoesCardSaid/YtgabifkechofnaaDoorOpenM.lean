/- Arguments that are models and acts, opened to plain data (turned from the guide's worked block on slices of structs). -/
import Derived.Test.YtgabifkechofnaaDoorModP
import Derived.Test.YtgabifkechofnaaDoorOpD
import Derived.Test.YtgabifkechofnaaDoorProg
import Derived.Deep.Slices
import Derived.Deep.Fields
import Derived.ChangeSame
import Derived.OpenShut
namespace Go.Proofs.YtgabifkechofnaaDoor
open Go.RowKit Go.ChangeShapes Go.WideShapes Go.Deep

section
variable {H : Type} {enc : TypeId × Value → H} {P : Program} {w : World} {base : Nat} {spare : Nat → Bool} {held : Bool}
/-- the cells and the fields' readings of each struct of a slice -/
theorem open_structs {t e : TypeId} {fs : Array Field} {fuel : Nat} {v : Value} {x : DataW H × List MemPlace} (ht : P.underlying t = some (.slice e)) (he : P.underlying e = some (.struct fs))
    (hone : oneCellFields P fs = true) (hC : P.cellsOf e = fs.size) (hpos : 0 < fs.size) (h : DataW.trod enc P w base spare held fuel t [v] = some x) :
    v = .slice none 0 0 ∨ ∃ (g o len cap : Nat), (v = .slice (some ⟨g, o, none⟩) len cap ∨ len = 0 ∧ ∃ a, v = .slice (some a) 0 cap) ∧ len ≤ cap ∧ cap ≤ maxLen ∧
      ∀ i, i < len → ∀ (j : Nat) (f : Field), fs[j]? = some f → ∃ (u : Value) (n : Nat) (y : DataW H × List MemPlace), w.cell? ⟨g, o + (i * fs.size + j), none⟩ = some u ∧ DataW.trod enc P w base spare held n f.type [u] = some y := by
  rcases open_slice ht h with h0 | ⟨a, len, cap, m, n, D, Pl, hcs, hb, hl, hm, hmm, hx, hi⟩
  · left; exact List.head_eq_of_cons_eq h0.1
  · right
    have hv : v = .slice (some a) len cap := List.head_eq_of_cons_eq hcs
    have hlm : len ≤ m := by rw [hmm]; split <;> omega
    have key : ∀ i, i < len → ∀ (j : Nat) (f : Field), fs[j]? = some f → ∃ (u : Value) (n : Nat) (y : DataW H × List MemPlace), w.cell? (a.add (i * fs.size + j)) = some u ∧ DataW.trod enc P w base spare held n f.type [u] = some y := by
      intro i hil j f hj
      obtain ⟨cs', hc, ht'⟩ := hi i (by omega)
      rw [hC] at hc
      obtain ⟨ys, n', hn', hy, hlen, hyl, hf⟩ := DataW.trod_struct he ht'
      obtain ⟨_, hcl, hat⟩ := World.cells?_some hc
      obtain ⟨ho, hk⟩ := hone_of hone j f hj
      have hjl : j < fs.size := (Array.getElem?_eq_some_iff.1 hj).1
      have hcell := hat j hjl
      have h1 := hf j f hj
      rw [ho, hk] at h1
      have hone' : (cs'.drop j).take 1 = [cs'[j]'(by omega)] := by
        rw [List.drop_eq_getElem_cons (by omega)]
        rfl
      rw [hone'] at h1
      have hys : ys[j]? = some (ys[j]'(by omega)) := List.getElem?_eq_getElem (by omega)
      refine ⟨cs'[j]'(by omega), n', ys[j]'(by omega), ?_, h1.trans hys⟩
      rw [← Go.Deep.add_add, hcell, List.getElem?_eq_getElem (by omega)]
    obtain ⟨b, o, sp⟩ := a
    by_cases h0 : 0 < len
    · obtain ⟨u, _, _, hu, _⟩ := key 0 h0 0 fs[0] (Array.getElem?_eq_getElem hpos)
      have hspot : sp = none := by simpa [Addr.add] using World.cell?_spot hu
      subst hspot
      refine ⟨b, o, len, cap, .inl hv, hl, hm, fun i hil j f hj => ?_⟩
      obtain ⟨u, n, y, h1, h2⟩ := key i hil j f hj
      rw [Go.WideShapes.add_plain] at h1
      exact ⟨u, n, y, h1, h2⟩
    · obtain rfl : len = 0 := by omega
      exact ⟨b, o, 0, cap, .inr ⟨rfl, _, hv⟩, hl, hm, fun i hil => absurd hil (by omega)⟩
theorem open_six {r : Reach} {b0 : Nat} {t : TypeId} {f0 f1 f2 f3 f4 f5 : Field} {v : Value} {d : DataW H} {p : List MemPlace} (hs : P.underlying t = some (.struct #[f0, f1, f2, f3, f4, f5])) (hone : oneCellFields P #[f0, f1, f2, f3, f4, f5] = true) (hC : P.cellsOf t = 6)
    (hv : Value.okWide P w r b0 t v) (h : DataW.Trod enc P w base spare held t v d p) :
    ∃ (v0 v1 v2 v3 v4 v5 : Value), v = .agg #[v0, v1, v2, v3, v4, v5] ∧ (∃ n y, DataW.trod enc P w base spare held n f0.type [v0] = some y) ∧ (∃ n y, DataW.trod enc P w base spare held n f1.type [v1] = some y) ∧ (∃ n y, DataW.trod enc P w base spare held n f2.type [v2] = some y) ∧
      (∃ n y, DataW.trod enc P w base spare held n f3.type [v3] = some y) ∧ (∃ n y, DataW.trod enc P w base spare held n f4.type [v4] = some y) ∧ (∃ n y, DataW.trod enc P w base spare held n f5.type [v5] = some y) := by
  obtain ⟨cs, rfl, hsz⟩ := okWide_struct hs hv
  obtain ⟨l⟩ := cs
  match l, hsz.trans hC with
  | [c0, c1, c2, c3, c4, c5], _ =>
    obtain ⟨fuel, hf⟩ := h
    obtain ⟨xs, n, _, _, _, hlen, hg⟩ := DataW.trod_struct hs hf
    have key : ∀ (j : Nat) (f : Field) (c : Value), (#[f0, f1, f2, f3, f4, f5] : Array Field)[j]? = some f → [c0, c1, c2, c3, c4, c5][j]? = some c → ∃ n y, DataW.trod enc P w base spare held n f.type [c] = some y := by
      intro j f c hj hc
      obtain ⟨ho, hk⟩ := hone_of hone j f hj
      have h1 := hg j f hj
      rw [ho, hk] at h1
      have h2 : ((Value.agg ⟨[c0, c1, c2, c3, c4, c5]⟩).cells.toList.drop j).take 1 = [c] := by
        obtain ⟨hjl, rfl⟩ := List.getElem?_eq_some_iff.1 hc
        show ([c0, c1, c2, c3, c4, c5].drop j).take 1 = _
        rw [List.drop_eq_getElem_cons hjl]; rfl
      rw [h2] at h1
      have hjf : j < xs.length := by rw [hlen]; exact (Array.getElem?_eq_some_iff.1 hj).1
      exact ⟨n, xs[j], h1.trans (List.getElem?_eq_getElem hjf)⟩
    exact ⟨c0, c1, c2, c3, c4, c5, rfl, key 0 f0 c0 rfl rfl, key 1 f1 c1 rfl rfl, key 2 f2 c2 rfl rfl, key 3 f3 c3 rfl rfl, key 4 f4 c4 rfl rfl, key 5 f5 c5 rfl rfl⟩
end

section
variable {H : Type} {enc : TypeId × Value → H} {w : World} {spare : Nat → Bool} {held : Bool}
theorem intF {n : Nat} {u : Value} {y : DataW H × List MemPlace} (h : DataW.trod enc Tryd.prog w 0 spare held n 3 [u] = some y) : ∃ z : Int, u = .int .i64 z := by
  obtain ⟨z, e, _⟩ := DataW.trod_int Tryd.underlying3 h
  exact ⟨z, List.head_eq_of_cons_eq e⟩
theorem strF {n : Nat} {u : Value} {y : DataW H × List MemPlace} (h : DataW.trod enc Tryd.prog w 0 spare held n 9 [u] = some y) : ∃ s : ByteArray, u = .string s := by
  obtain ⟨z, e, _⟩ := DataW.trod_string Tryd.underlying9 h
  exact ⟨z, List.head_eq_of_cons_eq e⟩
theorem list_of {α : Type} (n : Nat) (p : Nat → α → Prop) (h : ∀ i, i < n → ∃ x, p i x) : ∃ l : List α, l.length = n ∧ ∀ i x, l[i]? = some x → p i x := by
  induction n with
  | zero => exact ⟨[], rfl, fun i x hx => by simp at hx⟩
  | succ n ih =>
    obtain ⟨l, hl, hp⟩ := ih fun i hi => h i (by omega)
    obtain ⟨x, hx⟩ := h n (by omega)
    refine ⟨l ++ [x], by simp [hl], fun i y hy => ?_⟩
    by_cases hi : i < n
    · rw [List.getElem?_append_left (by omega)] at hy; exact hp i y hy
    · rw [List.getElem?_append_right (by omega)] at hy
      cases hj : i - l.length with
      | zero =>
        rw [hj] at hy
        simp only [List.getElem?_cons_zero, Option.some.injEq] at hy
        subst hy
        obtain rfl : i = n := by omega
        exact hx
      | succ j => rw [hj] at hy; simp at hy
theorem open_blks {n : Nat} {v : Value} {y : DataW H × List MemPlace} (h : DataW.trod enc Tryd.prog w 0 spare held n 39 [v] = some y) : ∃ l, BlksAt w v l := by
  rcases open_structs Tryd.underlying39 Tryd.underlying56 (by kernel_rfl) (show Tryd.prog.cellsOf 56 = _ by kernel_rfl) (by decide) h with h0 | ⟨g, o, len, cap, hv, hl, hm, hf⟩
  · exact ⟨[], none, 0, h0, Nat.le_refl _, Nat.zero_le _, fun i d hd => by simp at hd⟩
  · obtain ⟨l, hll, hp⟩ := list_of len (fun i (d : BlkD) => w.cell? ⟨g, o + i * 2, none⟩ = some (.int .i64 d.pos) ∧ w.cell? ⟨g, o + i * 2 + 1, none⟩ = some (.string d.text)) (fun i hi => by
      obtain ⟨u0, n0, y0, c0, t0⟩ := hf i hi 0 _ rfl
      obtain ⟨u1, n1, y1, c1, t1⟩ := hf i hi 1 _ rfl
      obtain ⟨z, rfl⟩ := intF t0
      obtain ⟨s, rfl⟩ := strF t1
      exact ⟨⟨z, s⟩, c0, c1⟩)
    rcases hv with hv | ⟨h0, a, hv⟩
    · exact ⟨l, _, cap, by rw [hll]; exact hv, by rw [hll]; exact hl, hm, fun i d hd => ⟨g, o, rfl, hp i d hd⟩⟩
    · subst h0
      obtain rfl : l = [] := List.eq_nil_of_length_eq_zero hll
      exact ⟨[], _, cap, hv, Nat.zero_le _, hm, fun i d hd => by simp at hd⟩
theorem open_vols {n : Nat} {v : Value} {y : DataW H × List MemPlace} (h : DataW.trod enc Tryd.prog w 0 spare held n 22 [v] = some y) : ∃ m, ModelAt w v m := by
  rcases open_structs Tryd.underlying22 Tryd.underlying41 (by kernel_rfl) (show Tryd.prog.cellsOf 41 = _ by kernel_rfl) (by decide) h with h0 | ⟨g, o, len, cap, hv, hl, hm, hf⟩
  · exact ⟨[], none, 0, h0, Nat.le_refl _, Nat.zero_le _, fun i d hd => by simp at hd⟩
  · obtain ⟨l, hll, hp⟩ := list_of len (fun i (d : VolD) => ∃ bp c, w.cell? ⟨g, o + i * 3, none⟩ = some (.int .i64 d.id) ∧ w.cell? ⟨g, o + i * 3 + 1, none⟩ = some (.int .i64 d.size) ∧ w.cell? ⟨g, o + i * 3 + 2, none⟩ = some (.slice bp d.blocks.length c) ∧ d.blocks.length ≤ c ∧ c ≤ maxLen ∧ BlksIn w bp d.blocks) (fun i hi => by
      obtain ⟨u0, n0, y0, c0, t0⟩ := hf i hi 0 _ rfl
      obtain ⟨u1, n1, y1, c1, t1⟩ := hf i hi 1 _ rfl
      obtain ⟨u2, n2, y2, c2, t2⟩ := hf i hi 2 _ rfl
      obtain ⟨z, rfl⟩ := intF t0
      obtain ⟨s, rfl⟩ := intF t1
      obtain ⟨bl, bp, bc, rfl, hb1, hb2, hb3⟩ := open_blks t2
      exact ⟨⟨z, s, bl⟩, bp, bc, c0, c1, c2, hb1, hb2, hb3⟩)
    rcases hv with hv | ⟨h0, a, hv⟩
    · refine ⟨l, _, cap, by rw [hll]; exact hv, by rw [hll]; exact hl, hm, fun i d hd => ?_⟩
      obtain ⟨bp, c, h1⟩ := hp i d hd
      exact ⟨g, o, bp, c, rfl, h1⟩
    · subst h0
      obtain rfl : l = [] := List.eq_nil_of_length_eq_zero hll
      exact ⟨[], _, cap, hv, Nat.zero_le _, hm, fun i d hd => by simp at hd⟩
set_option maxRecDepth 100000 in
theorem open_model {r : Reach} {b0 : Nat} {v : Value} {d : DataW H} {ps : List MemPlace} (hv : Value.okWide Tryd.prog w r b0 22 v) (h : DataW.Trod enc Tryd.prog w 0 spare held 22 v d ps) : ∃ m, ModelAt w v m := by
  obtain ⟨A, n, cap, rfl⟩ := okWide_slice Tryd.underlying22 hv
  obtain ⟨fuel, h⟩ := h
  exact open_vols (n := fuel) h
set_option maxRecDepth 100000 in
theorem open_op {r : Reach} {b0 : Nat} {v : Value} {d : DataW H} {ps : List MemPlace} (hv : Value.okWide Tryd.prog w r b0 24 v) (h : DataW.Trod enc Tryd.prog w 0 spare held 24 v d ps) : ∃ x : OpD, v = x.agg := by
  obtain ⟨c0, c1, c2, c3, c4, c5, rfl, ⟨_, _, h0⟩, ⟨_, _, h1⟩, ⟨_, _, h2⟩, ⟨_, _, h3⟩, ⟨_, _, h4⟩, ⟨_, _, h5⟩⟩ := open_six Tryd.underlying24 (by kernel_rfl) (show Tryd.prog.cellsOf 24 = 6 by kernel_rfl) hv h
  obtain ⟨x0, rfl⟩ := intF h0
  obtain ⟨x1, rfl⟩ := intF h1
  obtain ⟨x2, rfl⟩ := intF h2
  obtain ⟨x3, rfl⟩ := intF h3
  obtain ⟨x4, rfl⟩ := intF h4
  obtain ⟨x5, rfl⟩ := strF h5
  exact ⟨⟨x0, x1, x2, x3, x4, x5⟩, rfl⟩
end
end Go.Proofs.YtgabifkechofnaaDoor
