/- The walks of the model's errors. -/
import Derived.Test.YtgabifkechofnaaDoorModA
import Derived.Test.YtgabifkechofnaaDoorOpD
namespace Go.Proofs.YtgabifkechofnaaDoor
open Go.RowKit

theorem makeFunc_runM (fn : Fn) (first cap : Array Value) (w : World) : (Instr.makeFunc fn first cap).run Tryd.prog w = .ok (.func fn first cap) w := rfl
theorem ret_int {k : IntKind} {a b : Int} (h : a = b) : Ending.returned (.int k a) = .returned (.int k b) := by rw [h]
def faultOfL (size : Int) (x : OpD) : Int :=
  if x.act = 2 ∧ (x.n < 0 ∨ 100000 < x.n) then 1
  else if x.act = 4 ∧ x.text.size ≠ 256 then 1
  else if size < 0 then 190
  else if (x.act = 3 ∨ x.act = 4) ∧ (x.block < 0 ∨ size ≤ x.block) then 191
  else if x.act = 5 ∧ (x.block < 0 ∨ x.n < 0 ∨ size < x.block ∨ size - x.block < x.n) then 191
  else 0

set_option maxRecDepth 100000 in
set_option maxHeartbeats 1000000 in
theorem faultOf_any (size : Int) (x : OpD) (w : World) (h : size ≤ 100000) :
    Calls Tryd.prog 39 #[.int .i64 size, x.agg] w fun e w' => e = .returned (.int .i64 (faultOfL size x)) ∧ Below w.heap.size w w' := by
  obtain ⟨ac, vo, de, bl, nn, tx⟩ := x
  simp only [OpD.agg]
  have hb := (Below.refl w.heap.size w).alloc (Nat.le_refl _) (.cells #[.int .i64 ac, .int .i64 vo, .int .i64 de, .int .i64 bl, .int .i64 nn, .string tx] 24)
  have HB := Lib.hid hb; clear hb
  go_enter Tryd.func39, Tryd.ntmps39
  go_wp2_with fail
  all_goals
    go_ret
    refine ⟨ret_int ?_, (Below.refl _ _).alloc (Nat.le_refl _) _⟩
    try simp only [beq_iff_eq, beq_eq_false_iff_ne, bne_iff_ne, bne_eq_false_iff_eq, ne_eq] at *
    unfold faultOfL; simp only
    (repeat' split) <;> first | omega | (simp_all; done) | (simp_all <;> omega)

def sizeL (m : List VolD) (id : Int) : Int := match findL m id with | none => -1 | some i => match m[i]? with | none => -1 | some d => d.size
theorem sizeL_none {m : List VolD} {id : Int} (h : findL m id = none) : sizeL m id = -1 := by unfold sizeL; rw [h]
theorem sizeL_some {m : List VolD} {id : Int} {i : Nat} {d : VolD} (h : findL m id = some i) (hd : m[i]? = some d) : sizeL m id = d.size := by unfold sizeL; rw [h]; simp only [hd]
theorem findL_lt {m : List VolD} {id : Int} {i : Nat} (h : findL m id = some i) : ∃ d, m[i]? = some d ∧ d.id = id := by
  unfold findL at h
  obtain ⟨hk, h2, _⟩ := List.findIdx?_eq_some_iff_getElem.1 h
  exact ⟨_, List.getElem?_eq_getElem hk, by simpa using h2⟩
theorem sizeL_bd {m : List VolD} (hs : ∀ d ∈ m, 0 ≤ d.size ∧ d.size ≤ 100000) (id : Int) : -1 ≤ sizeL m id ∧ sizeL m id ≤ 100000 := by
  cases h : findL m id with
  | none => rw [sizeL_none h]; omega
  | some i =>
    obtain ⟨d, hd, _⟩ := findL_lt h
    rw [sizeL_some h hd]
    have := hs d (List.mem_of_getElem? hd); omega

theorem size_any (m : List VolD) (id : Int) (v : Value) (b : Nat) (w : World) (hc : w.cell? ⟨b, 0, none⟩ = some v) (hm : ModelAt w v m) :
    Calls Tryd.prog 38 #[.int .i64 id, .pointer (some ⟨b, 0, none⟩)] w fun e w' => e = .returned (.int .i64 (sizeL m id)) ∧ Below w.heap.size w w' := by
  have HM := Lib.hid hm; have HC := Lib.hid hc
  go_enter Tryd.func38, Tryd.ntmps38
  go_wp2_with fail
  refine (find_any m id v _ HM.out).mono ?_
  rintro e w1 ⟨rfl, hb⟩
  have HB := Lib.hid hb
  have hc1 := cell_stays hb hc
  clear hc hb hm
  cases h : findL m id with
  | none =>
    have HS := Lib.hid (sizeL_none h); clear h
    go_wp2_with fail
    go_ret
    exact ⟨ret_int HS.out.symm, HB.out⟩
  | some i =>
    obtain ⟨d, hd, _⟩ := findL_lt h
    have HS := Lib.hid (sizeL_some h hd); clear h
    obtain ⟨p, c, rfl, hc1', hc2', hel⟩ := HM.out.stays HB.out
    obtain ⟨g, o, bp, bc, rfl, h0, h1, h2, _⟩ := hel i d hd
    have hi : (i : Int) < (m.length : Int) := by have := (List.getElem?_eq_some_iff.1 hd).1; omega
    clear hel hd
    go_wp2_with fail
    go_ret
    exact ⟨ret_int HS.out.symm, HB.out⟩

def faultL (m : List VolD) (x : OpD) : Int :=
  if x.act = 0 then (if x.vol < 1 ∨ 1000 < x.vol ∨ x.n < 0 ∨ 100000 < x.n then 1 else if 0 ≤ sizeL m x.vol ∨ 64 ≤ m.length then 190 else 0)
  else if x.act = 6 then (if x.dest < 1 ∨ 1000 < x.dest then 1 else if sizeL m x.vol < 0 ∨ 0 ≤ sizeL m x.dest ∨ 64 ≤ m.length then 190 else 0)
  else if 7 ≤ x.act ∧ x.act ≤ 9 then 0
  else if 1 ≤ x.act ∧ x.act ≤ 5 then faultOfL (sizeL m x.vol) x
  else 1
end Go.Proofs.YtgabifkechofnaaDoor
