/- The walk of the reference's Same. -/
import Derived.Test.YtgabifkechofnaaDoorModRB
namespace Go.Proofs.YtgabifkechofnaaDoor
open Go.RowKit

theorem bne_no {a b : Int} (h : a = b) : (a != b) = false := by subst h; simp
theorem bne_yes {a b : Int} (h : a ≠ b) : (a != b) = true := by simpa using h
/-- the first k volumes are alike -/
def AlikeTo (a b : List VolD) (k : Nat) : Prop := ∀ j, j < k → a[j]? = b[j]?
theorem AlikeTo.all {a b : List VolD} (hl : a.length = b.length) (h : AlikeTo a b a.length) : a = b := by
  apply List.ext_getElem?
  intro i
  by_cases hi : i < a.length
  · exact h i hi
  · rw [List.getElem?_eq_none (by omega), List.getElem?_eq_none (by omega)]
theorem alike_no {a b : List VolD} {k : Nat} {d e : VolD} (hd : a[k]? = some d) (he : b[k]? = some e) (h : d ≠ e) : a ≠ b := by
  intro hab; subst hab; rw [hd] at he; exact h (Option.some.inj he)

theorem toListInj {t u : ByteArray} (h : t.toList = u.toList) : t = u := by
  rw [ByteArray.toList_eq, ByteArray.toList_eq] at h
  exact Go.WideShapes.bytes_inj h
theorem run_neq_blk (w : World) (p q : Int) (t u : ByteArray) (r : Bool) (hr : decide (p = q ∧ t = u) = r) : (binOp .neq 56 (.agg #[.int .i64 p, .string t]) (.agg #[.int .i64 q, .string u])).run Tryd.prog w = .ok (.bool (!r)) w := by
  subst hr
  go_simp
  by_cases h1 : p = q
  · by_cases h2 : t = u
    · subst h1; subst h2; simp
    · rw [if_pos h1, if_neg (fun h => h2 (toListInj h))]; simp [h2]
  · rw [if_neg h1]; simp [h1]

set_option maxRecDepth 100000 in
set_option maxHeartbeats 16000000 in
theorem rsame_any (ma mb : List VolD) (va vb : Value) (w : World) (hma : ModelAt w va ma) (hmb : ModelAt w vb mb) :
    Calls Tryd.prog 14 #[va, vb] w fun e w' => e = .returned (.bool (decide (ma = mb))) ∧ Below w.heap.size w w' := by
  obtain ⟨pa, ca, rfl, ha1, ha2, hela⟩ := hma
  obtain ⟨pb, cb, rfl, hb1, hb2, helb⟩ := hmb
  have HA := Lib.hid hela; have HB := Lib.hid helb
  have hla : ma.length ≤ 9223372036854775807 := by unfold maxLen at ha2; omega
  have hlb : mb.length ≤ 9223372036854775807 := by unfold maxLen at hb2; omega
  clear hela helb ha1 ha2 hb1 hb2
  by_cases hl : ma.length = mb.length
  case neg =>
    have hne : ((ma.length : Int) != (mb.length : Int)) = true := bne_yes (by omega)
    have HF := Lib.hid (show decide (ma = mb) = false from decide_eq_false fun h => hl (by rw [h])); clear hl
    go_enter Tryd.func14, Tryd.ntmps14
    go_wp2_with fail
    go_ret
    exact ⟨ret_bool HF.out.symm, Below.refl _ _⟩
  have hne : ((ma.length : Int) != (mb.length : Int)) = false := bne_no (by omega)
  have HL := Lib.hid hl; clear hl
  go_enter Tryd.func14, Tryd.ntmps14
  go_wp2_with fail
  clear hne
  go_loopw [5] (fun i wr => ∃ k : Nat, k ≤ ma.length ∧ i = .int .i64 k ∧ AlikeTo ma mb k ∧ Below w.heap.size w wr) (fun i _ => ma.length - (intOf i).toNat)
  case atStart => exact ⟨0, Nat.zero_le _, rfl, fun j hj => by omega, Below.refl _ _⟩
  case round =>
    obtain ⟨k, hk, rfl, hal, hbw⟩ := hrel
    obtain ⟨wo, rfl⟩ : ∃ wo : World, wo = wr := ⟨_, rfl⟩
    have HAL := Lib.hid hal; have HBW := Lib.hid hbw; clear hal hbw
    by_cases hlt : k < ma.length
    case neg =>
      obtain rfl : k = ma.length := by omega
      have HT := Lib.hid (show decide (ma = mb) = true from decide_eq_true (HAL.out.all HL.out))
      go_wp2_with fail
      go_ret
      exact ⟨ret_bool HT.out.symm, HBW.out⟩
    have hki : (k : Int) < (ma.length : Int) := by omega
    have hkj : (k : Int) < (mb.length : Int) := by have := HL.out; omega
    obtain ⟨d, hd⟩ : ∃ d, ma[k]? = some d := ⟨_, List.getElem?_eq_getElem hlt⟩
    obtain ⟨e, he⟩ : ∃ e, mb[k]? = some e := ⟨_, List.getElem?_eq_getElem (by have := HL.out; omega)⟩
    obtain ⟨g, o, bp, bc, rfl, x0, x1, x2, xb1, xb2, xbl⟩ := HA.out.stays HBW.out k d hd
    obtain ⟨g', o', bp', bc', rfl, y0, y1, y2, yb1, yb2, ybl⟩ := HB.out.stays HBW.out k e he
    have hdl : d.blocks.length ≤ 9223372036854775807 := by unfold maxLen at xb2; omega
    have hel : e.blocks.length ≤ 9223372036854775807 := by unfold maxLen at yb2; omega
    have HD := Lib.hid hd; have HE := Lib.hid he; have HXB := Lib.hid xbl; have HYB := Lib.hid ybl
    clear hd he xb1 xb2 xbl yb1 yb2 ybl
    have bad : d ≠ e → decide (ma = mb) = false := fun h => decide_eq_false (alike_no HD.out HE.out h)
    have HBAD := Lib.hid bad; clear bad
    by_cases hi : d.id = e.id
    case neg =>
      have hb := bne_yes hi
      have HF := Lib.hid (HBAD.out fun h => hi (by rw [h])); clear hi
      go_wp2_with fail
      go_quiet (fail)
      go_wp2_with fail
      go_ret
      exact ⟨ret_bool HF.out.symm, below_drewN' HBW.out _⟩
    have hb := bne_no hi
    by_cases hs : d.size = e.size
    case neg =>
      have hb2 := bne_yes hs
      have HF := Lib.hid (HBAD.out fun h => hs (by rw [h])); clear hi hs
      go_wp2_with fail
      go_quiet (fail)
      go_wp2_with fail
      go_ret
      exact ⟨ret_bool HF.out.symm, below_drewN' HBW.out _⟩
    have hb2 := bne_no hs
    by_cases hn : d.blocks.length = e.blocks.length
    case neg =>
      have hb3 : ((d.blocks.length : Int) != (e.blocks.length : Int)) = true := bne_yes (by omega)
      have HF := Lib.hid (HBAD.out fun h => hn (by rw [h])); clear hi hs hn
      go_wp2_with fail
      go_quiet (fail)
      go_wp2_with fail
      go_ret
      exact ⟨ret_bool HF.out.symm, below_drewN' HBW.out _⟩
    have hb3 : ((d.blocks.length : Int) != (e.blocks.length : Int)) = false := bne_no (by omega)
    have HEQ := Lib.hid (And.intro hi (And.intro hs hn)); clear hi hs hn
    go_wp2_with fail
    go_quiet (fail)
    go_wp2_with fail
    clear hb hb2 hb3
    go_loopw [6] (fun i wr => ∃ n : Nat, n ≤ d.blocks.length ∧ i = .int .i64 n ∧ (∀ j, j < n → d.blocks[j]? = e.blocks[j]?) ∧ Below wo.heap.size wo wr) (fun i _ => d.blocks.length - (intOf i).toNat)
    case atStart => exact ⟨0, Nat.zero_le _, rfl, fun j hj => by omega, below_drewN' (Below.refl _ _) _⟩
    case round =>
      obtain ⟨n, hn, rfl, hby, hbi⟩ := hrel
      have HBY := Lib.hid hby; have HBI := Lib.hid hbi; clear hby hbi
      have z0 := cell_stays HBI.out x0
      have z1 := cell_stays HBI.out x1
      have z2 := cell_stays HBI.out x2
      have t2 := cell_stays HBI.out y2
      by_cases hlt2 : n < d.blocks.length
      case neg =>
        obtain rfl : n = d.blocks.length := by omega
        have HDE := Lib.hid (show d = e by
          obtain ⟨q1, q2, q3⟩ := HEQ.out
          have hbl : d.blocks = e.blocks := by
            apply List.ext_getElem?
            intro i
            by_cases hi : i < d.blocks.length
            · exact HBY.out i hi
            · rw [List.getElem?_eq_none (by omega), List.getElem?_eq_none (by omega)]
          cases d; cases e; simp_all)
        go_wp2_with fail
        go_roundw
        case rel =>
          refine ⟨k + 1, by omega, by go_num, fun j hj => ?_, HBW.out.trans (HBI.out.mono HBW.out.size)⟩
          by_cases ejk : j = k
          · subst ejk; rw [HD.out, HE.out, HDE.out]
          · exact HAL.out j (by omega)
        case measure => simp [intOf]; omega
      have hni : (n : Int) < (d.blocks.length : Int) := by omega
      have hnj : (n : Int) < (e.blocks.length : Int) := by have := HEQ.out.2.2; omega
      obtain ⟨b, hb⟩ : ∃ b, d.blocks[n]? = some b := ⟨_, List.getElem?_eq_getElem hlt2⟩
      obtain ⟨c, hc⟩ : ∃ c, e.blocks[n]? = some c := ⟨_, List.getElem?_eq_getElem (by omega)⟩
      obtain ⟨bg, bo, rfl, k0, k1⟩ := HXB.out.stays HBI.out n b hb
      obtain ⟨cg, co, rfl, l0, l1⟩ := HYB.out.stays HBI.out n c hc
      have HBB := Lib.hid hb; have HCC := Lib.hid hc; clear hb hc
      by_cases heq : b = c
      · have hr : ∀ w, (binOp .neq 56 (.agg #[.int .i64 b.pos, .string b.text]) (.agg #[.int .i64 c.pos, .string c.text])).run Tryd.prog w = .ok (.bool false) w := fun w => run_neq_blk w _ _ _ _ true (by subst heq; simp)
        have HEQ2 := Lib.hid heq; clear heq
        go_wp2_with fail
        go_quiet (fail)
        go_wp2_with fail
        go_roundw
        case rel =>
          refine ⟨n + 1, by omega, by go_num, fun j hj => ?_, below_drewN' HBI.out _⟩
          by_cases e : j = n
          · subst e; rw [HBB.out, HCC.out, HEQ2.out]
          · exact HBY.out j (by omega)
        case measure => simp [intOf]; omega
      · have hr : ∀ w, (binOp .neq 56 (.agg #[.int .i64 b.pos, .string b.text]) (.agg #[.int .i64 c.pos, .string c.text])).run Tryd.prog w = .ok (.bool true) w := fun w => run_neq_blk w _ _ _ _ false (by
          rw [decide_eq_false_iff_not]; intro h; apply heq; cases b; cases c; simp_all)
        have HF := Lib.hid (HBAD.out fun h => heq (by rw [h] at HBB; have h1 := HBB.out; rw [HCC.out] at h1; exact (Option.some.inj h1).symm)); clear heq
        go_wp2_with fail
        go_quiet (fail)
        go_wp2_with fail
        go_ret
        exact ⟨ret_bool HF.out.symm, below_drewN' (HBW.out.trans (HBI.out.mono HBW.out.size)) _⟩
end Go.Proofs.YtgabifkechofnaaDoor
