/- Words for the walks of layer 19's laws: boxes of an act, what is read, a blank block. -/
import Derived.Test.YtgabifkechofnaaDoorModLC
namespace Go.Proofs.YtgabifkechofnaaDoor
open Go.RowKit

theorem smallP {m : List VolD} (h : smallB m = true) : m.length ≤ 1000 ∧ ∀ d ∈ m, d.blocks.length ≤ 60 := by
  unfold smallB at h
  rw [Bool.and_eq_true, List.all_eq_true, decide_eq_true_eq] at h
  exact ⟨by omega, fun d hd => by simpa using h.1 d hd⟩
theorem mayLen {m : List VolD} (h : MayP m) : m.length ≤ 1000 := Nat.le_trans h.len (by omega)
theorem lread3 (m : List VolD) (hmp : MayP m) (vo de bl nn : Int) (tx : ByteArray) (v : Value) (w : World) (hm : ModelAt w v m) (hbl : ∀ d ∈ m, d.blocks.length ≤ 50000) (hp : Pow10 w) :
    Calls Tryd.prog 15 #[v, .agg #[.int .i64 3, .int .i64 vo, .int .i64 de, .int .i64 bl, .int .i64 nn, .string tx]] w fun e w' => e = .returned (.tuple #[.string (rd m vo bl).2, .int .i64 (rd m vo bl).1]) ∧ Below w.heap.size w w' :=
  (lread_any m ⟨3, vo, de, bl, nn, tx⟩ v w hm (mayLen hmp) hbl hp).mono fun e w' ⟨h1, h2⟩ => ⟨by rw [h1, doL_read hmp], h2⟩
/-- the six cells of an act, which may be written -/
structure OBox (b : Nat) (x : OpD) (W : World) : Prop where
  c : ∀ r u, x.cells[r]? = some u → W.cell? ⟨b, r, none⟩ = some u
  f : ∀ r, r < 6 → W.frozen? ⟨b, r, none⟩ = false
theorem OBox.lt {b : Nat} {x : OpD} {W : World} (h : OBox b x W) : b < W.heap.size := World.block_lt_of_cell? W _ (h.c 0 _ rfl)
theorem OBox.below {b : Nat} {x : OpD} {W W' : World} (h : OBox b x W) (hb : Below W.heap.size W W') : OBox b x W' :=
  ⟨fun r u hu => cell_stays hb (h.c r u hu), fun r hr => (hb.frozen (p := ⟨b, r, none⟩) h.lt).trans (h.f r hr)⟩
theorem OBox.far {b : Nat} {x : OpD} {W : World} (h : OBox b x W) {p : Addr} (hp : p.block ≠ b) (u : Value) : OBox b x (W.setCell p u) :=
  ⟨fun r v hv => (World.cell?_setCell_far _ _ _ _ hp).trans (h.c r v hv), fun r hr => (World.frozen?_setCell _ _ _ _).trans (h.f r hr)⟩
theorem OBox.set {b : Nat} {x y : OpD} {W : World} (h : OBox b x W) (k : Nat) (z : Value) (hy : y.cells = x.cells.set k z) : OBox b y (W.setCell ⟨b, k, none⟩ z) := by
  refine ⟨fun r u hu => ?_, fun r hr => (World.frozen?_setCell _ _ _ _).trans (h.f r hr)⟩
  rw [hy] at hu
  by_cases e : k = r
  · subst e
    have hk : k < x.cells.length := by have := (List.getElem?_eq_some_iff.1 hu).1; rwa [List.length_set] at this
    rw [List.getElem?_set_self hk] at hu
    cases hu
    exact World.cell?_setCell_same _ _ _ (h.c k _ (List.getElem?_eq_getElem hk))
  · rw [List.getElem?_set_ne e] at hu
    exact (World.cell?_setCell_other _ _ _ _ (fun hh => e (by injection hh))).trans (h.c r u hu)
theorem OBox.new {b : Nat} (x : OpD) {W : World} (t : TypeId) (hb : W.heap.size = b) : OBox b x (W.alloc (.cells #[.int .i64 x.act, .int .i64 x.vol, .int .i64 x.dest, .int .i64 x.block, .int .i64 x.n, .string x.text] t)) := by
  subst hb
  refine ⟨fun r u hu => ?_, fun r hr => by simp⟩
  rw [World.cell?_alloc_at _ _ _ _ rfl]
  show (x.cells.toArray)[r]? = some u
  rw [List.getElem?_toArray]; exact hu
/-- a block of bytes 0, made on the spot -/
theorem blank_make (W : World) : ∃ W', (Instr.makeSlice 36 (.int .i64 256) (.int .i64 256)).run Tryd.prog W = .ok (.slice (some ⟨W.heap.size, 0, none⟩) 256 256) W' ∧
    (convert 36 9 (.slice (some ⟨W.heap.size, 0, none⟩) 256 256)).run Tryd.prog W' = .ok (.string blankB) W' ∧ Below W.heap.size W W' := by
  obtain ⟨i0, hi, hz0, hz1, hz2⟩ := info_parts infoU8M
  obtain ⟨w1, hmk, hown0, hg0⟩ := run_make_full (P := Tryd.prog) W W.heap.size 36 5 i0 (.int .u8 0) 1 Tryd.underlying36 hi hz0 hz1 .i64 .i64 256 (by rw [hz2]; omega) (by unfold maxLen; omega) (Nat.le_refl _)
  rw [zeros256 0] at hown0
  have hcv := ow_text (P := Tryd.prog) (src := 36) (dst := 9) (l := List.replicate 256 0) Tryd.underlying36 Tryd.underlying5 Tryd.underlying9 (g := W.heap.size) (cap := 256) (B := W.heap.size) (w := w1) (e := 5) (by rw [List.length_replicate]; exact hown0)
  rw [List.length_replicate] at hcv
  exact ⟨w1, hmk, hcv, (Below.refl _ _).grown hg0 (Nat.le_refl _) (fun k e => by cases e)⟩
end Go.Proofs.YtgabifkechofnaaDoor
