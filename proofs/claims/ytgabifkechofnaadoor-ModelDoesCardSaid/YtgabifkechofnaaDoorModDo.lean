/- The walk of the model's Do, of every act. -/
import Derived.Test.YtgabifkechofnaaDoorModU
import Derived.Test.YtgabifkechofnaaDoorModY
import Derived.Test.YtgabifkechofnaaDoorModZ
import Derived.Test.YtgabifkechofnaaDoorModI6
import Derived.Test.YtgabifkechofnaaDoorModM
import Derived.Test.YtgabifkechofnaaDoorModN
import Derived.Test.YtgabifkechofnaaDoorModR
namespace Go.Proofs.YtgabifkechofnaaDoor
open Go.RowKit

theorem do_any (m : List VolD) (x : OpD) (v : Value) (w : World) (hm : ModelAt w v m) (hl : m.length ≤ 1000) (hbl : ∀ d ∈ m, d.blocks.length ≤ 50000) (hp : Pow10 w) :
    Calls Tryd.prog 10 #[v, x.agg] w (DoEnd m x w) := by
  by_cases hmay : mayL m = true
  case neg => exact do_bad m x v w hm (by simpa using hmay)
  by_cases hf : faultL m x = 0
  case neg => exact do_fault m x v w hm hl hbl hmay hf
  obtain ⟨ac, vo, de, bl, nn, tx⟩ := x
  have hac : 0 ≤ ac ∧ ac ≤ 9 := by
    apply Classical.byContradiction; intro h
    rw [faultL_out (x := ⟨ac, vo, de, bl, nn, tx⟩) (show ac < 0 ∨ 9 < ac by omega)] at hf
    omega
  simp only [OpD.agg]
  have h10 : ac = 0 ∨ ac = 1 ∨ ac = 2 ∨ ac = 3 ∨ ac = 4 ∨ ac = 5 ∨ ac = 6 ∨ ac = 7 ∨ ac = 8 ∨ ac = 9 := by omega
  rcases h10 with rfl | rfl | rfl | rfl | rfl | rfl | rfl | rfl | rfl | rfl
  · exact do_0 m vo de bl nn tx v w hm hl hbl hmay hf hp
  · exact do_1 m vo de bl nn tx v w hm hl hbl hmay hf hp
  · exact do_2 m vo de bl nn tx v w hm hl hbl hmay hf hp
  · exact do_3 m vo de bl nn tx v w hm hl hbl hmay hf hp
  · exact do_4 m vo de bl nn tx v w hm hl hbl hmay hf hp
  · exact do_5 m vo de bl nn tx v w hm hl hbl hmay hf hp
  · exact do_6 m vo de bl nn tx v w hm hl hbl hmay hf hp
  · exact do_7 m vo de bl nn tx v w hm hl hbl hmay hf hp
  · exact do_8 m vo de bl nn tx v w hm hl hbl hmay hf hp
  · exact do_9 m vo de bl nn tx v w hm hl hbl hmay hf hp
end Go.Proofs.YtgabifkechofnaaDoor
