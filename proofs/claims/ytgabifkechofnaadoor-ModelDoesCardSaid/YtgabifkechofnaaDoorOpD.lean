/- What is asked, as plain data. No program in sight. -/
import Derived.Test.YtgabifkechofnaaDoorBase
namespace Go.Proofs.YtgabifkechofnaaDoor
open Go.RowKit

structure OpD where
  act : Int
  vol : Int
  dest : Int
  block : Int
  n : Int
  text : ByteArray
def OpD.cells (o : OpD) : List Value := [.int .i64 o.act, .int .i64 o.vol, .int .i64 o.dest, .int .i64 o.block, .int .i64 o.n, .string o.text]
def OpD.zero : OpD := ⟨0, 0, 0, 0, 0, ⟨#[]⟩⟩
def OpD.agg (o : OpD) : Value := .agg #[.int .i64 o.act, .int .i64 o.vol, .int .i64 o.dest, .int .i64 o.block, .int .i64 o.n, .string o.text]
end Go.Proofs.YtgabifkechofnaaDoor
