/- The model of layer 19 as plain data, and how it lies in memory. No program in sight. -/
import Derived.Test.YtgabifkechofnaaDoorBase
import Derived.Test.YtgabifkechofnaaDoorOwn
namespace Go.Proofs.YtgabifkechofnaaDoor
open Go.RowKit

structure BlkD where
  pos : Int
  text : ByteArray
deriving DecidableEq
structure VolD where
  id : Int
  size : Int
  blocks : List BlkD
deriving DecidableEq

/-- blocks, as they lie behind an address -/
def BlksIn (w : World) (p : Option Addr) (l : List BlkD) : Prop :=
  ∀ i d, l[i]? = some d → ∃ g o, p = some ⟨g, o, none⟩ ∧ w.cell? ⟨g, o + i * 2, none⟩ = some (.int .i64 d.pos) ∧ w.cell? ⟨g, o + i * 2 + 1, none⟩ = some (.string d.text)
/-- a list of blocks, as it lies behind a slice value -/
def BlksAt (w : World) (v : Value) (l : List BlkD) : Prop := ∃ p c, v = .slice p l.length c ∧ l.length ≤ c ∧ c ≤ maxLen ∧ BlksIn w p l
/-- volumes, as they lie behind an address -/
def VolsIn (w : World) (p : Option Addr) (m : List VolD) : Prop :=
  ∀ i d, m[i]? = some d → ∃ g o bp c, p = some ⟨g, o, none⟩ ∧ w.cell? ⟨g, o + i * 3, none⟩ = some (.int .i64 d.id) ∧ w.cell? ⟨g, o + i * 3 + 1, none⟩ = some (.int .i64 d.size) ∧ w.cell? ⟨g, o + i * 3 + 2, none⟩ = some (.slice bp d.blocks.length c) ∧ d.blocks.length ≤ c ∧ c ≤ maxLen ∧ BlksIn w bp d.blocks
/-- a list of volumes, as it lies behind a slice value -/
def ModelAt (w : World) (v : Value) (m : List VolD) : Prop := ∃ p c, v = .slice p m.length c ∧ m.length ≤ c ∧ c ≤ maxLen ∧ VolsIn w p m

theorem cell_stays {W W' : World} (hb : Below W.heap.size W W') {a : Addr} {v : Value} (h : W.cell? a = some v) : W'.cell? a = some v := (hb.cell (World.block_lt_of_cell? W _ h)).trans h
theorem BlksIn.stays {w w' : World} {p : Option Addr} {l : List BlkD} (h : BlksIn w p l) (hb : Below w.heap.size w w') : BlksIn w' p l := fun i d hd => by
  obtain ⟨g, o, e1, e2, e3⟩ := h i d hd
  exact ⟨g, o, e1, cell_stays hb e2, cell_stays hb e3⟩
theorem BlksAt.stays {w w' : World} {v : Value} {l : List BlkD} (h : BlksAt w v l) (hb : Below w.heap.size w w') : BlksAt w' v l := by
  obtain ⟨p, c, h1, h2, h3, h4⟩ := h
  exact ⟨p, c, h1, h2, h3, h4.stays hb⟩
theorem VolsIn.stays {w w' : World} {p : Option Addr} {m : List VolD} (h : VolsIn w p m) (hb : Below w.heap.size w w') : VolsIn w' p m := fun i d hd => by
  obtain ⟨g, o, bp, c, e1, e2, e3, e4, e5, e6, e7⟩ := h i d hd
  exact ⟨g, o, bp, c, e1, cell_stays hb e2, cell_stays hb e3, cell_stays hb e4, e5, e6, e7.stays hb⟩
theorem ModelAt.stays {w w' : World} {v : Value} {m : List VolD} (h : ModelAt w v m) (hb : Below w.heap.size w w') : ModelAt w' v m := by
  obtain ⟨p, c, h1, h2, h3, h4⟩ := h
  exact ⟨p, c, h1, h2, h3, h4.stays hb⟩

/-- where a volume is -/
def findL (m : List VolD) (id : Int) : Option Nat := m.findIdx? fun v => v.id == id
end Go.Proofs.YtgabifkechofnaaDoor
