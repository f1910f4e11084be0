/- The walk of the model's own copy. -/
import Derived.Test.YtgabifkechofnaaDoorModC
import Derived.Test.YtgabifkechofnaaDoorModO
import Derived.Test.YtgabifkechofnaaDoorCloneV
import Derived.Test.YtgabifkechofnaaDoorCloneB
namespace Go.Proofs.YtgabifkechofnaaDoor
open Go.RowKit

abbrev MOwnT (B G : Nat) (m : List VolD) (v : Value) (w : World) : Prop := MOwn B G 41 56 m v w
def OwnRel (B G : Nat) (m : List VolD) (v : Value) (orig : List Value) (w : World) (i : Value) (wr : World) : Prop :=
  ∃ k bvs, k ≤ m.length ∧ i = .int .i64 (k : Nat) ∧ OwnK B G 41 56 m v k bvs wr ∧ (∀ j, k ≤ j → bvs[j]? = orig[j]?) ∧ Below w.heap.size w wr

set_option maxRecDepth 100000 in
set_option maxHeartbeats 1000000 in
theorem own_any (m : List VolD) (v : Value) (w : World) (hm : ModelAt w v m) (hl : m.length ≤ 1000) (hbl : ∀ d ∈ m, d.blocks.length ≤ 1000000) :
    Calls Tryd.prog 20 #[v] w fun e w' => ∃ v' G, e = .returned v' ∧ MOwnT w.heap.size G m v' w' ∧ w.heap.size ≤ G ∧ Below w.heap.size w w' := by
  obtain ⟨p, c, rfl, hc1, hc2, hel⟩ := hm
  have hsrc := hel.src
  obtain ⟨orig, horig⟩ : ∃ o, bvsAt w p m.length = o := ⟨_, rfl⟩
  have hol : orig.length = m.length := by rw [← horig]; exact bvsAt_len _ _ _
  have hov : ∀ (i : Nat) (d : VolD), m[i]? = some d → ∃ bp bc, orig[i]? = some (Value.slice bp d.blocks.length bc) ∧ BlksIn w bp d.blocks := by
    intro i d hd
    obtain ⟨g, o, bp, bc, rfl, _, _, h2, _, _, h3⟩ := hel i d hd
    have hi := (List.getElem?_eq_some_iff.1 hd).1
    refine ⟨bp, bc, ?_, h3⟩
    rw [← horig]; unfold bvsAt
    rw [List.getElem?_map, List.getElem?_range hi]
    simp only [Option.map_some, Option.some.injEq]
    rw [ow_at', ← Nat.add_assoc, h2]; rfl
  rw [horig] at hsrc
  have HS := Lib.hid hsrc; have HOV := Lib.hid hov; have HOL := Lib.hid hol; have HBL := Lib.hid hbl; have HL := Lib.hid hl
  have hlen : m.length ≤ 9223372036854775807 := by omega
  clear hsrc hov hol hel horig hc1 hc2 hbl hl
  go_enter Tryd.func20, Tryd.ntmps20
  go_wp2_with fail
  refine (cloneV_any p m.length c _ _ HS.out (by have := HL.out; omega)).mono ?_
  rintro e w1 ⟨v', rfl, hown, hb⟩
  have hshape := ow_slice hown
  have HB1 := Lib.hid hb
  have hk0 : OwnK w.heap.size w1.heap.size 41 56 m v' 0 orig w1 :=
    ⟨HOL.out, hown, fun g hg => (hown.lt g hg).2, Nat.le_refl _, fun i _ _ hi => absurd hi (by omega), fun i _ _ _ hi => absurd hi (by omega)⟩
  have HK0 := Lib.hid hk0
  clear hown hb hk0
  have hv : ∃ pp cc, v' = .slice pp m.length cc ∧ ∀ a, pp = some a → ∃ g, a = ⟨g, 0, none⟩ := by
    rcases hshape with ⟨h1, h2, _⟩ | ⟨g, cap, h1⟩
    · exact ⟨none, 0, by rw [h1, h2], fun a h => by cases h⟩
    · exact ⟨_, cap, h1, fun a h => by cases h; exact ⟨g, rfl⟩⟩
  obtain ⟨pp, cc, rfl, hpp⟩ := hv
  have HPP := Lib.hid hpp
  clear hshape hpp
  go_wp2_with fail
  go_loopw [9] (fun i wr => OwnRel w.heap.size w1.heap.size m (.slice pp m.length cc) orig w i wr) (fun i _ => m.length - (intOf i).toNat)
  case atStart => exact ⟨0, orig, Nat.zero_le _, rfl, HK0.out, fun _ _ => rfl, HB1.out⟩
  case round =>
    obtain ⟨k, bvs, hk, rfl, hok, hrest, hb⟩ := hrel
    have HOK := Lib.hid hok; have HR := Lib.hid hrest; have HB := Lib.hid hb
    clear hok hrest hb
    by_cases hlt : k < m.length
    · have hki : (k : Int) < (m.length : Int) := by omega
      obtain ⟨d, hd⟩ : ∃ d, m[k]? = some d := ⟨_, List.getElem?_eq_getElem hlt⟩
      obtain ⟨bp, bc, ho, hbi⟩ := HOV.out k d hd
      have hpp2 : ∃ g, pp = some ⟨g, 0, none⟩ := by
        rcases ow_slice HOK.out.row with ⟨h1, h2, _⟩ | ⟨g, cap, h1⟩
        · omega
        · exact ⟨g, by injection h1⟩
      obtain ⟨g, rfl⟩ := hpp2
      have hbv : bvs[k]? = some (Value.slice bp d.blocks.length bc) := by rw [HR.out k (Nat.le_refl _)]; exact ho
      have hcell : wr.cell? ⟨g, k * 3 + 2, none⟩ = some (.slice bp d.blocks.length bc) := by
        have h3 := flat_get (volRows_all m bvs) (volRows_at hd hbv) (show 2 < 3 by decide)
        have := HOK.out.row.cells (g := g) rfl (k * 3 + 2) _ (h3.trans rfl)
        rwa [ow_at] at this
      have HD := Lib.hid hd; have HBI := Lib.hid (hbi.stays HB.out).src
      clear hd ho hbi hbv
      go_wp2_with fail
      refine (cloneB_any bp d.blocks.length bc _ _ HBI.out (by have := HBL.out d (List.mem_of_getElem? HD.out); omega)).mono ?_
      rintro e w2 ⟨u, rfl, hu, hb⟩
      have hfree := ow_free (HOK.out.below hb).row (k * 3 + 2)
      have hcell2 := cell_stays hb hcell
      obtain ⟨up, uc, hue, _⟩ := blks_of_own hu
      subst hue
      have HU := Lib.hid hu; have HB2 := Lib.hid hb
      clear hu hb hcell
      go_wp2_with fail
      go_roundw
      case rel =>
        refine ⟨k + 1, bvs.set k (.slice up d.blocks.length uc), by omega, by go_num, HOK.out.step HD.out HB2.out HU.out, fun j hj => ?_, ?_⟩
        · rw [List.getElem?_set_ne (by omega)]; exact HR.out j (by omega)
        · exact (HB.out.trans (HB2.out.mono HB.out.size)).setCell (HOK.out.row.lt g rfl).1 _
      case measure => simp [intOf]; omega
    · obtain rfl : k = m.length := by omega
      go_wp2_with fail
      go_ret
      exact ⟨_, _, rfl, ⟨bvs, HOK.out⟩, HB1.out.size, HB.out⟩
end Go.Proofs.YtgabifkechofnaaDoor
