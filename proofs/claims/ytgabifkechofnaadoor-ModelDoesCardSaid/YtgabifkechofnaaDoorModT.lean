/- What an owned model reads as when the blocks of one volume are turned. No program in sight. -/
import Derived.Test.YtgabifkechofnaaDoorModL
namespace Go.Proofs.YtgabifkechofnaaDoor
open Go.RowKit

theorem volRows_set {m : List VolD} {bvs : List Value} {i : Nat} {d : VolD} {bv : Value} {r : Nat} {u : Value} (hd : m[i]? = some d) (hb : bvs[i]? = some bv) (hr : r < 3) :
    (volRows m bvs).flatten.set (i * 3 + r) u = ((volRows m bvs).set i ((volCs d bv).set r u)).flatten := flat_set u (volRows_all _ _) (volRows_at hd hb) hr
theorem zip_set {m : List VolD} {bvs : List Value} (i : Nat) (d : VolD) (bv : Value) : (volRows m bvs).set i (volCs d bv) = volRows (m.set i d) (bvs.set i bv) := by
  unfold volRows
  apply List.ext_getElem?
  intro j
  by_cases e : i = j
  · subst e
    rw [List.getElem?_zipWith, List.getElem?_set_self', List.getElem?_set_self', List.getElem?_set_self', List.getElem?_zipWith]
    cases m[i]? <;> cases bvs[i]? <;> rfl
  · rw [List.getElem?_set_ne e, List.getElem?_zipWith, List.getElem?_zipWith, List.getElem?_set_ne e, List.getElem?_set_ne e]
/-- the blocks (and the size) of the volume at i turned: its row behind what was done to its blocks alone, and the store of what came of them -/
theorem set_model {B : Nat} {tv : TypeId} {m : List VolD} {bvs : List Value} {w : World} {i g cap : Nat} {d d' : VolD} {nb : Value} (hl : bvs.length = m.length) (hd : m[i]? = some d)
    (hrow : w.ownsRow B tv 3 (.slice (some ⟨g, 0, none⟩) m.length cap) m.length (volRows (m.set i d') (bvs.set i nb)).flatten)
    (hoth : ∀ (j : Nat) (e : VolD) (bv : Value), j ≠ i → m[j]? = some e → bvs[j]? = some bv → BvOk w e bv) (hbv : BvOk w d' nb) :
    ModelAt w (.slice (some ⟨g, 0, none⟩) m.length cap) (m.set i d') := by
  have hml : (m.set i d').length = m.length := List.length_set ..
  have hil : i < m.length := (List.getElem?_eq_some_iff.1 hd).1
  refine model_of_rows (bvs := bvs.set i nb) (by rw [List.length_set, List.length_set, hl]) (by rw [hml]; exact hrow) fun j e bv he hb => ?_
  by_cases h : i = j
  · subst h
    rw [List.getElem?_set_self hil] at he
    rw [List.getElem?_set_self (by rw [hl]; exact hil)] at hb
    cases he; cases hb; exact hbv
  · rw [List.getElem?_set_ne h] at he hb
    exact hoth j e bv (fun x => h x.symm) he hb
/-- .. the store -/
theorem turn_model {B G : Nat} {tv tb : TypeId} {m : List VolD} {g cap : Nat} {bvs : List Value} {w w' : World} {i : Nat} {d : VolD} {bv nb : Value} {bl : List BlkD}
    (h : OwnK B G tv tb m (.slice (some ⟨g, 0, none⟩) m.length cap) m.length bvs w) (hd : m[i]? = some d) (hbv : bvs[i]? = some bv) (hg : w.grownBy w' bv.ownBlock)
    (hn : w'.ownsRow G tb 2 nb bl.length (blkRows bl).flatten) :
    ModelAt (w'.setCell ⟨g, i * 3 + 2, none⟩ nb) (.slice (some ⟨g, 0, none⟩) m.length cap) (m.set i ⟨d.id, d.size, bl⟩) := by
  have hil : i < m.length := (List.getElem?_eq_some_iff.1 hd).1
  have hgG : g < G := h.lo g rfl
  have hb0 := h.blk i d bv hil hd hbv
  have hrow1 : w'.ownsRow B tv 3 (.slice (some ⟨g, 0, none⟩) m.length cap) m.length (volRows m bvs).flatten := h.row.kept hg (by
    right; intro e
    have := (hb0.lt g e.symm).1
    omega)
  have hlen : i * 3 + 2 < (volRows m bvs).flatten.length := by rw [flat_length (volRows_all _ _), volRows_len h.len]; omega
  have hrow2 := ow_set hrow1 (i * 3 + 2) nb hlen
  rw [volRows_set hd hbv (by decide)] at hrow2
  have e3 : (volCs d bv).set 2 nb = volCs ⟨d.id, d.size, bl⟩ nb := rfl
  rw [e3, zip_set] at hrow2
  refine set_model h.len hd hrow2 (fun j e b hj he hb => ?_) (blks_of_own (ownsRow_setCell_below hn hgG nb))
  have hjl := (List.getElem?_eq_some_iff.1 he).1
  have h1 := (h.blk j e b hjl he hb).kept hg (by
    rcases h.far j i b bv hjl hil hj hb hbv with x | x
    · exact .inl x
    · exact .inr x)
  exact blks_of_own (ownsRow_setCell_below h1 hgG nb)

/-- volumes in a row that is owned, each with blocks that are owned -/
structure ROk (B G : Nat) (tv tb : TypeId) (m : List VolD) (g cap : Nat) (bvs : List Value) (w : World) : Prop where
  len : bvs.length = m.length
  row : w.ownsRow B tv 3 (.slice (some ⟨g, 0, none⟩) m.length cap) m.length (volRows m bvs).flatten
  lt : g < G
  le : B ≤ G
  blk : ∀ (i : Nat) (d : VolD) (bv : Value), m[i]? = some d → bvs[i]? = some bv → w.ownsRow G tb 2 bv d.blocks.length (blkRows d.blocks).flatten
theorem OwnK.rok {B G : Nat} {tv tb : TypeId} {m : List VolD} {g cap : Nat} {bvs : List Value} {w : World} (h : OwnK B G tv tb m (.slice (some ⟨g, 0, none⟩) m.length cap) m.length bvs w) (hG : B ≤ G) : ROk B G tv tb m g cap bvs w :=
  ⟨h.len, h.row, h.lo g rfl, hG, fun i d bv hd hb => h.blk i d bv (List.getElem?_eq_some_iff.1 hd).1 hd hb⟩
theorem ROk.below {B G : Nat} {tv tb : TypeId} {m : List VolD} {g cap : Nat} {bvs : List Value} {w w' : World} (h : ROk B G tv tb m g cap bvs w) (hb : Below w.heap.size w w') : ROk B G tv tb m g cap bvs w' :=
  ⟨h.len, h.row.kept (row := none) (grown_of_below hb _) (.inr (by simp [Value.ownBlock])), h.lt, h.le, fun i d bv hd he => (h.blk i d bv hd he).kept (row := none) (grown_of_below hb _) (by cases hq : bv.ownBlock <;> simp)⟩
theorem ROk.drew {B G : Nat} {tv tb : TypeId} {m : List VolD} {g cap : Nat} {bvs : List Value} {w : World} (h : ROk B G tv tb m g cap bvs w) : ROk B G tv tb m g cap bvs w.drew := h.below (Below.refl _ _).drew
theorem ROk.setBelow {B G : Nat} {tv tb : TypeId} {m : List VolD} {g cap : Nat} {bvs : List Value} {w : World} (h : ROk B G tv tb m g cap bvs w) {b i : Nat} (hb : b < B) (u : Value) : ROk B G tv tb m g cap bvs (w.setCell ⟨b, i, none⟩ u) :=
  ⟨h.len, ownsRow_setCell_below h.row hb u, h.lt, h.le, fun i d bv hd he => ownsRow_setCell_below (h.blk i d bv hd he) (Nat.lt_of_lt_of_le hb h.le) u⟩
theorem ROk.reads {B G : Nat} {tv tb : TypeId} {m : List VolD} {g cap : Nat} {bvs : List Value} {w : World} (h : ROk B G tv tb m g cap bvs w) : ModelAt w (.slice (some ⟨g, 0, none⟩) m.length cap) m :=
  model_of_rows h.len h.row fun i d bv hd hb => blks_of_own (h.blk i d bv hd hb)
theorem ROk.fin {B G : Nat} {tv tb : TypeId} {m : List VolD} {g cap : Nat} {bvs : List Value} {w : World} (h : ROk B G tv tb m g cap bvs w) : MFin B tv tb w (.slice (some ⟨g, 0, none⟩) m.length cap) m :=
  ⟨bvs, h.len, h.row, fun i d bv hd he => ow_mono h.le (h.blk i d bv hd he)⟩
theorem ROk.finN {B G : Nat} {tv tb : TypeId} {m : List VolD} {g cap n : Nat} {bvs : List Value} {w : World} (h : ROk B G tv tb m g cap bvs w) (e : m.length = n) : MFin B tv tb w (.slice (some ⟨g, 0, none⟩) n cap) m := e ▸ h.fin
theorem set_id {m : List VolD} {i : Nat} {_d e : VolD} (bvs : List Value) : (m.set i e).length = m.length ∧ (bvs.set i (.slice none 0 0)).length = bvs.length := ⟨List.length_set .., List.length_set ..⟩
theorem ROk.size {B G : Nat} {tv tb : TypeId} {m : List VolD} {g cap i : Nat} {bvs : List Value} {w : World} {d : VolD} (h : ROk B G tv tb m g cap bvs w) (hd : m[i]? = some d) (s : Int) :
    ROk B G tv tb (m.set i ⟨d.id, s, d.blocks⟩) g cap bvs (w.setCell ⟨g, i * 3 + 1, none⟩ (.int .i64 s)) := by
  have hil : i < m.length := (List.getElem?_eq_some_iff.1 hd).1
  obtain ⟨bv, hbv⟩ : ∃ b, bvs[i]? = some b := ⟨_, List.getElem?_eq_getElem (by rw [h.len]; exact hil)⟩
  have hlen : i * 3 + 1 < (volRows m bvs).flatten.length := by rw [flat_length (volRows_all _ _), volRows_len h.len]; omega
  have hrow := ow_set h.row (i * 3 + 1) (.int .i64 s) hlen
  rw [volRows_set hd hbv (by decide)] at hrow
  have e3 : (volCs d bv).set 1 (.int .i64 s) = volCs ⟨d.id, s, d.blocks⟩ bv := rfl
  have e4 : bvs.set i bv = bvs := by
    apply List.ext_getElem?
    intro j
    by_cases e : i = j
    · subst e; rw [List.getElem?_set_self (by rw [h.len]; exact hil), hbv]
    · rw [List.getElem?_set_ne e]
  rw [e3, zip_set, e4] at hrow
  have hml : (m.set i ⟨d.id, s, d.blocks⟩).length = m.length := List.length_set ..
  refine ⟨by rw [hml]; exact h.len, by rw [hml]; exact hrow, h.lt, h.le, fun j e b he hb => ?_⟩
  refine ownsRow_setCell_below ?_ h.lt _
  by_cases hj : i = j
  · subst hj
    rw [List.getElem?_set_self hil] at he
    cases he
    exact h.blk i d b hd hb
  · rw [List.getElem?_set_ne hj] at he
    exact h.blk j e b he hb
theorem OwnK.turn {B G : Nat} {tv tb : TypeId} {m : List VolD} {g cap : Nat} {bvs : List Value} {w w' : World} {i : Nat} {d : VolD} {bv nb : Value} {bl : List BlkD}
    (h : OwnK B G tv tb m (.slice (some ⟨g, 0, none⟩) m.length cap) m.length bvs w) (hG : B ≤ G) (hd : m[i]? = some d) (hbv : bvs[i]? = some bv) (hg : w.grownBy w' bv.ownBlock)
    (hn : w'.ownsRow G tb 2 nb bl.length (blkRows bl).flatten) :
    ROk B G tv tb (m.set i ⟨d.id, d.size, bl⟩) g cap (bvs.set i nb) (w'.setCell ⟨g, i * 3 + 2, none⟩ nb) := by
  have hil : i < m.length := (List.getElem?_eq_some_iff.1 hd).1
  have hgG : g < G := h.lo g rfl
  have hb0 := h.blk i d bv hil hd hbv
  have hrow1 : w'.ownsRow B tv 3 (.slice (some ⟨g, 0, none⟩) m.length cap) m.length (volRows m bvs).flatten := h.row.kept hg (by
    right; intro e
    have := (hb0.lt g e.symm).1
    omega)
  have hlen : i * 3 + 2 < (volRows m bvs).flatten.length := by rw [flat_length (volRows_all _ _), volRows_len h.len]; omega
  have hrow2 := ow_set hrow1 (i * 3 + 2) nb hlen
  rw [volRows_set hd hbv (by decide)] at hrow2
  have e3 : (volCs d bv).set 2 nb = volCs ⟨d.id, d.size, bl⟩ nb := rfl
  rw [e3, zip_set] at hrow2
  have hml : (m.set i ⟨d.id, d.size, bl⟩).length = m.length := List.length_set ..
  refine ⟨by rw [hml, List.length_set]; exact h.len, by rw [hml]; exact hrow2, hgG, hG, fun j e b he hb => ?_⟩
  refine ownsRow_setCell_below ?_ hgG nb
  by_cases hj : i = j
  · subst hj
    rw [List.getElem?_set_self hil] at he
    rw [List.getElem?_set_self (by rw [h.len]; exact hil)] at hb
    cases he; cases hb; exact hn
  · rw [List.getElem?_set_ne hj] at he hb
    have hjl := (List.getElem?_eq_some_iff.1 he).1
    exact (h.blk j e b hjl he hb).kept hg (by
      rcases h.far j i b bv hjl hil (fun x => hj x.symm) hb hbv with x | x
      · exact .inl x
      · exact .inr x)
end Go.Proofs.YtgabifkechofnaaDoor
