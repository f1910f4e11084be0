/- Small lemmas on rows that a call owns. No program in sight. -/
import Derived.Test.YtgabifkechofnaaDoorBase
import Derived.Deep.OwnRows
import Derived.Maps.AppendAt
import Derived.RangeFuncBox
namespace Go.Proofs.YtgabifkechofnaaDoor
open Go.RowKit

theorem ow_mono {w : World} {B B' : Nat} {e : TypeId} {size n : Nat} {v : Value} {xs : List Value} (h : B ≤ B') (ho : w.ownsRow B' e size v n xs) : w.ownsRow B e size v n xs := by
  refine ⟨ho.1, ?_⟩
  rcases ho.2 with h1 | ⟨g, cap, cur, h1, h2, h3⟩
  · exact .inl h1
  · exact .inr ⟨g, cap, cur, h1, Nat.le_trans h h2, h3⟩
theorem ow_at (g j : Nat) : (⟨g, 0, none⟩ : Addr).add j = ⟨g, j, none⟩ := by unfold Addr.add; split <;> simp_all
theorem ow_at' (g o j : Nat) : (⟨g, o, none⟩ : Addr).add j = ⟨g, o + j, none⟩ := by unfold Addr.add; split <;> simp_all
theorem ow_cell {w : World} {B g cap n : Nat} {e : TypeId} {size : Nat} {xs : List Value} (h : w.ownsRow B e size (.slice (some ⟨g, 0, none⟩) n cap) n xs) (j : Nat) (hj : j < xs.length) : w.cell? ⟨g, j, none⟩ = some xs[j] := by
  have := h.cells (g := g) rfl j _ (List.getElem?_eq_getElem hj)
  rwa [ow_at] at this
theorem ow_cap {w : World} {B g cap m n : Nat} {e : TypeId} {size : Nat} {xs : List Value} (h : w.ownsRow B e size (.slice (some ⟨g, 0, none⟩) m cap) n xs) : m = n ∧ n ≤ cap ∧ B ≤ g ∧ g < w.heap.size := by
  rcases h.2 with ⟨h1, _⟩ | ⟨g', cap', cur, h1, h2, h3, h4, _⟩
  · cases h1
  · injection h1 with a b c
    injection a with a; injection a with a _
    subst a; subst b; subst c
    exact ⟨rfl, h4, h2, (Array.getElem?_eq_some_iff.1 h3).1⟩
/-- of one element: behind the append -/
theorem ow_grown {w wr w1 : World} {B : Nat} {o : Obj} {v : Value} {e : TypeId} {size n : Nat} {xs : List Value} (hb : Below B w wr) (hs : B ≤ wr.heap.size) (hown : wr.ownsRow B e size v n xs) (hg : (wr.alloc o).grownBy w1 v.ownBlock) : Below B w w1 :=
  (hb.alloc hs o).grown hg (by simp; omega) (fun k e => (hown.lt k e).1)

def bytesV (l : List UInt8) : List Value := l.map fun b => .int .u8 (b.toNat : Nat)
theorem bytesV_length (l : List UInt8) : (bytesV l).length = l.length := by simp [bytesV]
theorem bytesV_snoc (l : List UInt8) (b : UInt8) : bytesV l ++ [.int .u8 (b.toNat : Nat)] = bytesV (l ++ [b]) := by simp [bytesV]
/-- the text of a row of bytes -/
theorem ow_text {P : Program} {w : World} {B g cap : Nat} {e src dst : TypeId} {l : List UInt8} (hs : P.underlying src = some (.slice e)) (he : P.underlying e = some (.int .u8)) (hd : P.underlying dst = some .string)
    (h : w.ownsRow B e 1 (.slice (some ⟨g, 0, none⟩) l.length cap) l.length (bytesV l)) : (convert src dst (.slice (some ⟨g, 0, none⟩) l.length cap)).run P w = .ok (.string ⟨l.toArray⟩) w := by
  refine run_convert_bytes_back w src dst e ⟨g, 0, none⟩ cap l hs he hd (fun j hj => ?_)
  rw [ow_at, ow_cell h j (by rw [bytesV_length]; exact hj)]
  simp [bytesV]
end Go.Proofs.YtgabifkechofnaaDoor
