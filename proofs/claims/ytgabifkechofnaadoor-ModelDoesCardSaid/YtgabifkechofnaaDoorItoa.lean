/- strconv.Itoa's contract, and the table that it reads. -/
import Derived.Test.YtgabifkechofnaaDoorBase
import Derived.Test.YtgabifkechofnaaDoorShelf
import Derived.Lib.ItoaLen
import Derived.Lib.SmallJoins
namespace Go.Proofs.YtgabifkechofnaaDoor
open Go.RowKit Go.Sort Go.Lib

abbrev Pow10 (w : World) : Prop := Lib.TabIs Tryd.prog w "internal/strconv.uint64pow10" .u64 Lib.pow10Tab
theorem pow_stays {w w' : World} (h : Pow10 w) (hb : Below w.heap.size w w') : Pow10 w' :=
  Joins.tab_stays (g := 1) (by kernel_rfl) h hb (Nat.le_refl _)
def itoaB (n : Int) : ByteArray := ⟨(Lib.itoa n).toArray⟩
theorem itoaB_size (n : Int) (h0 : -9223372036854775808 ≤ n) (h1 : n ≤ 9223372036854775807) : (itoaB n).size ≤ 21 := by
  have := Lib.itoa_length_le n h0 h1
  show (Lib.itoa n).toArray.size ≤ 21
  simpa using this
theorem itoa_call (n : Int) (h0 : -9223372036854775808 ≤ n) (h1 : n ≤ 9223372036854775807) (w : World) (hp : Pow10 w) :
    Calls Tryd.prog 46 #[.int .i64 n] w fun e w' => e = .returned (.string (itoaB n)) ∧ Below w.heap.size w w' := by
  refine (Tryd.strconv_Itoa n h0 h1 w hp).mono ?_
  rintro e w' ⟨rfl, k, os, rfl⟩
  exact ⟨rfl, (below_drewN' (Below.refl _ _) k).trans (below_grow (w.drewN k) os)⟩
theorem ba_assoc (a b c : ByteArray) : a ++ b ++ c = a ++ (b ++ c) := by
  apply Go.WideShapes.bytes_inj
  simp [ByteArray.data_append]
end Go.Proofs.YtgabifkechofnaaDoor
