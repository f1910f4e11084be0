/- Layer 25's seat: what the rows' list of tables gives, and a world for the witness. -/
import Derived.Test.YtolegljmaacabaaDoorCards
import Derived.Test.YtolegljmaacabaaDoorTie
import Derived.Test.YtolegljmaacabaaDoorReqJ
import Derived.Test.YtolegljmaacabaaDoorLawPost
import Derived.OpenShut
import Derived.Deep.DeepHandedRow
import Derived.Lib.LaidTab
import Derived.Stop.LaidErr
namespace Go.Proofs.YtolegljmaacabaaDoor
open Go.Stop Go.ChangeShapes Go.WideShapes Go.ChangeAt Go.RowKit

theorem own : ownKnob Tryd.prog.godebug = none := by kernel_rfl
theorem gPow : Tryd.prog.globalNamed "internal/strconv.uint64pow10" = some 0 := by kernel_rfl
theorem gPowType : (Tryd.prog.globals[0]?).map (·.type) = some 102 := by kernel_rfl
theorem cellsPow : Tryd.prog.cellsOf 102 = 20 := by kernel_rfl
theorem cellsU64 : Tryd.prog.cellsOf 60 = 1 := by kernel_rfl
theorem gTz : Tryd.prog.globalNamed "math/bits.deBruijn64tab" = some 5 := by kernel_rfl
theorem gTzType : (Tryd.prog.globals[5]?).map (·.type) = some 114 := by kernel_rfl
theorem cellsTz : Tryd.prog.cellsOf 114 = 64 := by kernel_rfl
theorem cellsU8 : Tryd.prog.cellsOf 5 = 1 := by kernel_rfl

theorem pow10_met {W : World} (h : laidMetH Tryd.prog Rows.requestTellsRow.laid W) : Pow10 W := by
  have h' : laidMet Tryd.prog Rows.requestTellsRow.laid W := h
  have h2 := laidMet.tail (laidMet.tail h')
  exact Lib.tabIs_of_head gPow gPowType Tryd.underlying102 Tryd.underlying60 cellsU64 cellsPow h2
def tzTab : List Int := [0, 1, 56, 2, 57, 49, 28, 3, 61, 58, 42, 50, 38, 29, 17, 4, 62, 47, 59, 36, 45, 43, 51, 22, 53, 39, 33, 30, 24, 18, 12, 5, 63, 55, 48, 27, 60, 41, 37, 16, 46, 35, 44, 21, 52, 32, 23, 11, 54, 26, 40, 15, 34, 20, 31, 10, 25, 14, 19, 9, 13, 8, 7, 6]
theorem tz_met {W : World} (h : laidMetH Tryd.prog Rows.requestTellsRow.laid W) : Tz4 W := by
  have h' : laidMet Tryd.prog Rows.requestTellsRow.laid W := h
  have h2 := laidMet.tail h'
  have h3 : Lib.TabIs Tryd.prog W "math/bits.deBruijn64tab" .u8 tzTab := Lib.tabIs_of_head gTz gTzType Tryd.underlying114 Tryd.underlying5 cellsU8 cellsTz h2
  exact h3.cell gTz 15 (by decide)
theorem laidOut : laidOutB Tryd.prog = true := by kernel_rfl
theorem int_bounds {n : Int} (h : (Lit.int .i64 n).wf = true) : -9223372036854775808 ≤ n ∧ n ≤ 9223372036854775807 := by
  have h2 : IntKind.min .i64 ≤ n ∧ n ≤ IntKind.max .i64 := by simpa [Lit.wf] using h
  have e1 : IntKind.min .i64 = -9223372036854775808 := by decide
  have e2 : IntKind.max .i64 = 9223372036854775807 := by decide
  rwa [e1, e2] at h2

theorem u8_bounds {n : Int} (h : (Lit.int .u8 n).wf = true) : 0 ≤ n ∧ n ≤ 255 := by
  have h2 : IntKind.min .u8 ≤ n ∧ n ≤ IntKind.max .u8 := by simpa [Lit.wf] using h
  have e1 : IntKind.min .u8 = 0 := by decide
  have e2 : IntKind.max .u8 = 255 := by decide
  rwa [e1, e2] at h2

theorem tabs_met {W : World} (h : laidMetH Tryd.prog Rows.requestTellsRow.laid W) : Tabs W := ⟨pow10_met h, tz_met h⟩

def flatCells : DataW Unit → List Value
  | .lit (.int k z) => [Value.int k z]
  | .agg l => (l.map flat2).flatten
  | _ => []
where flat2 : DataW Unit → List Value
  | .lit (.int k z) => [Value.int k z]
  | .agg l => l.map fun d => match d with | .lit (.int k z) => Value.int k z | _ => Value.nilIface
  | _ => []
def refill (c : Array Value) : Obj → Obj
  | .cells _ t frozen => .cells c t frozen
  | o => o
/-- A WORLD FOR THE WITNESS: the settled one, each listed table holding what its initialiser lays. -/
noncomputable def laidWorld (os : Os) : World :=
  { World.holding Tryd.prog os ⟨#[], #[], []⟩ with heap := (((((World.holding Tryd.prog os ⟨#[], #[], []⟩).heap.modify 4 (refill (flatCells Rows.laid_math_bits_deBruijn32tab).toArray)).modify 5 (refill (flatCells Rows.laid_math_bits_deBruijn64tab).toArray)).modify 0 (refill (flatCells Rows.laid_internal_strconv_uint64pow10).toArray)).modify 3 (refill (flatCells Rows.laid_unicode_utf8_acceptRanges).toArray)).modify 2 (refill (flatCells Rows.laid_unicode_utf8_first).toArray) }
theorem laid_met (os : Os) (args : Array Value) : laidMet Tryd.prog Rows.requestTellsRow.laid ((laidWorld os).forCall (fun _ _ => 0) ⟨#[], args, []⟩).memory :=
  laidMet_of_run' 8 (by kernel_rfl) (by kernel_rfl)
end Go.Proofs.YtolegljmaacabaaDoor
