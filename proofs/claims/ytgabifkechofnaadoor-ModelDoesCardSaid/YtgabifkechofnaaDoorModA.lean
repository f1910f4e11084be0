/- The walks of the model's readers. -/
import Derived.Test.YtgabifkechofnaaDoorModQ
import Derived.Test.YtgabifkechofnaaDoorProg
import Derived.Outline
namespace Go.Proofs.YtgabifkechofnaaDoor
open Go.RowKit

theorem find_any (m : List VolD) (id : Int) (v : Value) (w : World) (hm : ModelAt w v m) :
    Calls Tryd.prog 21 #[v, .int .i64 id] w fun e w' => e = .returned (.tuple #[.int .i64 (((findL m id).getD 0 : Nat) : Int), .bool (findL m id).isSome]) ∧ Below w.heap.size w w' := by
  obtain ⟨p, c, rfl, hc1, hc2, hel⟩ := hm
  have HEL := Lib.hid hel; clear hel
  have hlen : m.length ≤ 9223372036854775807 := by unfold maxLen at hc2; omega
  clear hc1 hc2
  go_enter Tryd.func21, Tryd.ntmps21
  go_wp2_with fail
  go_loopw [10] (fun i wr => ∃ k : Nat, k ≤ m.length ∧ i = .int .i64 k ∧ (∀ j, j < k → ∀ d, m[j]? = some d → d.id ≠ id) ∧ Below w.heap.size w wr) (fun i _ => m.length - (intOf i).toNat)
  case atStart => exact ⟨0, Nat.zero_le _, rfl, fun j hj => by omega, Below.refl _ _⟩
  case round =>
    obtain ⟨k, hk, rfl, hno, hb⟩ := hrel
    have HNO := Lib.hid hno; have HB := Lib.hid hb
    clear hno hb
    by_cases hlt : k < m.length
    · have hki : (k : Int) < (m.length : Int) := by omega
      obtain ⟨g, o, bp, bc, rfl, h0, h1, h2, _⟩ := HEL.out.stays HB.out k _ (List.getElem?_eq_getElem hlt)
      have hd := List.getElem?_eq_getElem hlt
      have HD := Lib.hid hd; clear hd
      by_cases he : m[k].id = id
      · have hbe : (m[k].id == id) = true := by simpa using he
        have HE := Lib.hid he; clear he
        go_wp2_with fail
        go_ret2
        rw [findL_some HD.out HE.out HNO.out]
        exact ⟨rfl, HB.out.alloc HB.out.size _⟩
      · have hbe : (m[k].id == id) = false := by simpa using he
        have HE := Lib.hid he; clear he
        go_wp2_with fail
        go_roundw
        case rel =>
          refine ⟨k + 1, by omega, by go_num, fun j hj d hd => ?_, HB.out.alloc HB.out.size _⟩
          by_cases e : j = k
          · subst e; rw [HD.out] at hd; cases hd; exact HE.out
          · exact HNO.out j (by omega) d hd
        case measure => simp [intOf]; omega
    · obtain rfl : k = m.length := by omega
      go_wp2_with fail
      go_ret2
      rw [findL_none HNO.out]
      exact ⟨rfl, HB.out⟩

set_option maxRecDepth 100000 in
set_option maxHeartbeats 1000000 in
theorem may_any (m : List VolD) (v : Value) (w : World) (hm : ModelAt w v m) :
    Calls Tryd.prog 12 #[v] w fun e w' => e = .returned (.bool (mayL m)) ∧ Below w.heap.size w w' := by
  obtain ⟨p, c, rfl, hc1, hc2, hel⟩ := hm
  have HEL := Lib.hid hel; clear hel
  by_cases hl : 64 < m.length
  · have e1 : (64 : Int) < (m.length : Int) := by omega
    rw [mayL_long hl]; clear hl hc1 hc2
    go_enter Tryd.func12, Tryd.ntmps12
    go_wp2_with fail
    go_ret
    exact ⟨rfl, Below.refl _ _⟩
  · have e1 : ¬ (64 : Int) < (m.length : Int) := by omega
    have hlen : m.length ≤ 64 := by omega
    clear hl hc1 hc2
    go_enter Tryd.func12, Tryd.ntmps12
    go_wp2_with fail
    go_loopw [12] (fun i wr => ∃ k : Nat, k ≤ m.length ∧ i = .int .i64 k ∧ (∀ j, j < k → volOk m j = true) ∧ Below w.heap.size w wr) (fun i _ => m.length - (intOf i).toNat)
    case atStart => exact ⟨0, Nat.zero_le _, rfl, fun j hj => by omega, Below.refl _ _⟩
    case round =>
      obtain ⟨k, hk, rfl, hyes, hb⟩ := hrel
      obtain ⟨wo, rfl⟩ : ∃ wo : World, wo = wr := ⟨_, rfl⟩
      have HY := Lib.hid hyes; have HB := Lib.hid hb
      clear hyes hb
      by_cases hlt : k < m.length
      · have hki : (k : Int) < (m.length : Int) := by omega
        have hd := List.getElem?_eq_getElem hlt
        obtain ⟨d, hdd⟩ : ∃ d, m[k] = d := ⟨_, rfl⟩
        rw [hdd] at hd
        obtain ⟨g, o, bp, bc, rfl, h0, h1, h2, hb1, hb2, hbl⟩ := HEL.out.stays HB.out k _ hd
        have HD := Lib.hid hd; have HBL := Lib.hid hbl; clear hd hdd hbl
        by_cases hc : 1 ≤ d.id ∧ d.id ≤ 1000 ∧ 0 ≤ d.size ∧ d.size ≤ 100000
        · obtain ⟨c1, c2, c3, c4⟩ := hc
          go_wp2_with fail
          have HC := Lib.hid (And.intro c1 (And.intro c2 (And.intro c3 c4)))
          clear c1 c2 c3 c4
          have hk0 : k = 0 ∨ ∃ i, k = i + 1 := by cases k with
            | zero => exact .inl rfl
            | succ i => exact .inr ⟨i, rfl⟩
          rcases hk0 with hk0 | ⟨i, hki1⟩
          · have hg : decide (0 < k) = false := by simp; omega
            have HO := Lib.hid (show ∀ i q, k = i + 1 → m[i]? = some q → q.id < d.id from fun i q h => absurd h (by omega)); clear hk0
            go_quiet (fail)
            go_wp2_with fail
            go_loopw [51] (fun i wr => ∃ n : Nat, n ≤ d.blocks.length ∧ i = .int .i64 n ∧ (∀ j, j < n → blkOk d.size d.blocks j = true) ∧ Below wo.heap.size wo wr ∧ wr.cell? ⟨wo.heap.size, 1, none⟩ = some (.int .i64 d.size) ∧ wr.cell? ⟨wo.heap.size, 2, none⟩ = some (.slice bp d.blocks.length bc)) (fun i _ => d.blocks.length - (intOf i).toNat)
            case atStart => exact ⟨0, Nat.zero_le _, rfl, fun j hj => by omega, below_drewN' ((Below.refl _ _).alloc (Nat.le_refl _) _) _, by simp, by simp⟩
            case round =>
              obtain ⟨n, hn, rfl, hby, hbi, q1, q2⟩ := hrel
              have HBY := Lib.hid hby; have HBI := Lib.hid hbi
              clear hby hbi
              have hdl : d.blocks.length ≤ 9223372036854775807 := by unfold maxLen at hb2; omega
              by_cases hlt2 : n < d.blocks.length
              · have hni : (n : Int) < (d.blocks.length : Int) := by omega
                have hb := List.getElem?_eq_getElem hlt2
                obtain ⟨b, hbb⟩ : ∃ b, d.blocks[n] = b := ⟨_, rfl⟩
                rw [hbb] at hb
                obtain ⟨bg, bo, rfl, y0, y1⟩ := HBL.out.stays HBI.out n _ hb
                have HBB := Lib.hid hb; clear hb hbb
                have hlw : wo.heap.size < wr.heap.size := World.block_lt_of_cell? _ _ q1
                by_cases hp0 : b.pos < 0
                · have HCC := Lib.hid hp0
                  go_wp2_with fail
                  go_ret
                  rw [mayL_bad _ hlt (volOk_blk HD.out n hlt2 (blkOk_bad HBB.out (.inl HCC.out)))]
                  exact ⟨rfl, HB.out.trans ((HBI.out.mono (by have := HB.out.size; omega)).alloc (by have := HB.out.size; have := HBI.out.size; omega) _)⟩
                by_cases hp1 : d.size ≤ b.pos
                · have HCC := Lib.hid hp1
                  go_wp2_with fail
                  go_ret
                  rw [mayL_bad _ hlt (volOk_blk HD.out n hlt2 (blkOk_bad HBB.out (.inr (.inl HCC.out))))]
                  exact ⟨rfl, HB.out.trans ((HBI.out.mono (by have := HB.out.size; omega)).alloc (by have := HB.out.size; have := HBI.out.size; omega) _)⟩
                by_cases hp2 : b.text.size = 256
                · have hts : ((b.text.size : Int) != 256) = false := by rw [hp2]; rfl
                  have HC2 := Lib.hid (show 0 ≤ b.pos ∧ b.pos < d.size ∧ b.text.size = 256 from ⟨by omega, by omega, hp2⟩); clear hp2
                  go_wp2_with fail
                  clear hp0 hp1 hts
                  have HBL2 := Lib.hid (HBI.out.alloc HBI.out.size (.cells #[.int .i64 b.pos, .string b.text] 56))
                  have hn0 : n = 0 ∨ ∃ i, n = i + 1 := by cases n with
                    | zero => exact .inl rfl
                    | succ i => exact .inr ⟨i, rfl⟩
                  have q3 : (wr.alloc (.cells #[.int .i64 b.pos, .string b.text] 56)).cell? ⟨wo.heap.size, 2, none⟩ = some (.slice (some ⟨bg, bo, none⟩) d.blocks.length bc) := by rw [World.cell?_alloc_past _ _ _ hlw]; exact q2
                  have q4 : (wr.alloc (.cells #[.int .i64 b.pos, .string b.text] 56)).cell? ⟨wo.heap.size, 1, none⟩ = some (.int .i64 d.size) := by rw [World.cell?_alloc_past _ _ _ hlw]; exact q1
                  rcases hn0 with hn0 | ⟨z, hn1⟩
                  · have hg3 : decide (0 < n) = false := by simp; omega
                    have HO2 := Lib.hid (show ∀ i q, n = i + 1 → d.blocks[i]? = some q → q.pos < b.pos from fun i q h => absurd h (by omega)); clear hn0
                    go_quiet (fail)
                    go_wp2_with fail
                    go_roundw
                    case rel =>
                      refine ⟨n + 1, by omega, by go_num, fun j hj => ?_, below_drewN' HBL2.out _, by simpa using q4, by simpa using q3⟩
                      by_cases e : j = n
                      · subst e; exact blkOk_good HBB.out HC2.out.1 HC2.out.2.1 HC2.out.2.2 HO2.out
                      · exact HBY.out j (by omega)
                    case measure => simp [intOf]; omega
                  · have hg3 : decide (0 < n) = true := by simp; omega
                    obtain ⟨q, hq⟩ : ∃ q, d.blocks[z]? = some q := ⟨_, List.getElem?_eq_getElem (by omega)⟩
                    obtain ⟨g', o', hp', k0, _⟩ := HBL.out.stays HBL2.out z q hq
                    cases hp'
                    have e5 : IntKind.i64.wrap ((n : Int) - 1) = (z : Int) := by rw [IntKind.wrap_i64]; omega
                    have e6 : (z : Int) < (d.blocks.length : Int) := by omega
                    have HQ := Lib.hid hq; clear hq
                    have HN := Lib.hid hn1
                    have HDN := Lib.hid (show d.blocks[z + 1]? = some b by rw [← hn1]; exact HBB.out)
                    clear hn1
                    by_cases ho : q.pos < b.pos
                    · have hbo : ¬ b.pos ≤ q.pos := by omega
                      have HO2 := Lib.hid (show ∀ i' q', n = i' + 1 → d.blocks[i']? = some q' → q'.pos < b.pos from fun i' q' h h2 => by
                        obtain rfl : z = i' := by have := HN.out; omega
                        rw [HQ.out] at h2; cases h2; exact ho)
                      clear ho
                      go_quiet (fail)
                      go_wp2_with fail
                      go_roundw
                      case rel =>
                        refine ⟨n + 1, by omega, by go_num, fun j hj => ?_, below_drewN' HBL2.out _, by simpa using q4, by simpa using q3⟩
                        by_cases e : j = n
                        · subst e; exact blkOk_good HBB.out HC2.out.1 HC2.out.2.1 HC2.out.2.2 HO2.out
                        · exact HBY.out j (by omega)
                      case measure => simp [intOf]; omega
                    · have hbo : b.pos ≤ q.pos := by omega
                      have HBO := Lib.hid hbo
                      clear ho
                      go_quiet (fail)
                      go_wp2_with fail
                      go_ret
                      rw [mayL_bad _ hlt (volOk_blk HD.out (z + 1) (by have := HN.out; omega) (blkOk_order HDN.out HQ.out HBO.out))]
                      exact ⟨rfl, HB.out.trans (below_drewN' (HBL2.out.mono HB.out.size) _)⟩
                · have hts : ((b.text.size : Int) != 256) = true := by simp; omega
                  have HCC := Lib.hid hp2; clear hp2
                  go_wp2_with fail
                  go_ret
                  rw [mayL_bad _ hlt (volOk_blk HD.out n hlt2 (blkOk_bad HBB.out (.inr (.inr HCC.out))))]
                  exact ⟨rfl, HB.out.trans ((HBI.out.mono (by have := HB.out.size; omega)).alloc (by have := HB.out.size; have := HBI.out.size; omega) _)⟩
              · obtain rfl : n = d.blocks.length := by omega
                go_wp2_with fail
                go_roundw
                case rel =>
                  refine ⟨k + 1, by omega, by go_num, fun j hj => ?_, HB.out.trans (HBI.out.mono HB.out.size)⟩
                  by_cases e : j = k
                  · subst e; exact volOk_good HD.out HC.out.1 HC.out.2.1 HC.out.2.2.1 HC.out.2.2.2 HO.out HBY.out
                  · exact HY.out j (by omega)
                case measure => simp [intOf]; omega
          · have hg : decide (0 < k) = true := by simp; omega
            obtain ⟨q, hq⟩ : ∃ q, m[i]? = some q := ⟨_, List.getElem?_eq_getElem (by omega)⟩
            obtain ⟨g', o', bp', bc', hp', k0, _⟩ := HEL.out.stays (HB.out.alloc HB.out.size (.cells #[.int .i64 d.id, .int .i64 d.size, .slice bp d.blocks.length bc] 41)) i q hq
            cases hp'
            have e3 : IntKind.i64.wrap ((k : Int) - 1) = (i : Int) := by rw [IntKind.wrap_i64]; omega
            have e4 : (i : Int) < (m.length : Int) := by omega
            have HQ := Lib.hid hq; clear hq
            have HK := Lib.hid hki1
            have HDK := Lib.hid (show m[i + 1]? = some d by rw [← hki1]; exact HD.out)
            clear hki1
            by_cases ho : q.id < d.id
            · have hbo : ¬ d.id ≤ q.id := by omega
              have HO := Lib.hid (show ∀ i' q', k = i' + 1 → m[i']? = some q' → q'.id < d.id from fun i' q' h h2 => by
                obtain rfl : i = i' := by have := HK.out; omega
                rw [HQ.out] at h2; cases h2; exact ho)
              clear ho
              go_quiet (fail)
              go_wp2_with fail
              go_loopw [51] (fun i wr => ∃ n : Nat, n ≤ d.blocks.length ∧ i = .int .i64 n ∧ (∀ j, j < n → blkOk d.size d.blocks j = true) ∧ Below wo.heap.size wo wr ∧ wr.cell? ⟨wo.heap.size, 1, none⟩ = some (.int .i64 d.size) ∧ wr.cell? ⟨wo.heap.size, 2, none⟩ = some (.slice bp d.blocks.length bc)) (fun i _ => d.blocks.length - (intOf i).toNat)
              case atStart => exact ⟨0, Nat.zero_le _, rfl, fun j hj => by omega, below_drewN' ((Below.refl _ _).alloc (Nat.le_refl _) _) _, by simp, by simp⟩
              case round =>
                obtain ⟨n, hn, rfl, hby, hbi, q1, q2⟩ := hrel
                have HBY := Lib.hid hby; have HBI := Lib.hid hbi
                clear hby hbi
                have hdl : d.blocks.length ≤ 9223372036854775807 := by unfold maxLen at hb2; omega
                by_cases hlt2 : n < d.blocks.length
                · have hni : (n : Int) < (d.blocks.length : Int) := by omega
                  have hb := List.getElem?_eq_getElem hlt2
                  obtain ⟨b, hbb⟩ : ∃ b, d.blocks[n] = b := ⟨_, rfl⟩
                  rw [hbb] at hb
                  obtain ⟨bg, bo, rfl, y0, y1⟩ := HBL.out.stays HBI.out n _ hb
                  have HBB := Lib.hid hb; clear hb hbb
                  have hlw : wo.heap.size < wr.heap.size := World.block_lt_of_cell? _ _ q1
                  by_cases hp0 : b.pos < 0
                  · have HCC := Lib.hid hp0
                    go_wp2_with fail
                    go_ret
                    rw [mayL_bad _ hlt (volOk_blk HD.out n hlt2 (blkOk_bad HBB.out (.inl HCC.out)))]
                    exact ⟨rfl, HB.out.trans ((HBI.out.mono (by have := HB.out.size; omega)).alloc (by have := HB.out.size; have := HBI.out.size; omega) _)⟩
                  by_cases hp1 : d.size ≤ b.pos
                  · have HCC := Lib.hid hp1
                    go_wp2_with fail
                    go_ret
                    rw [mayL_bad _ hlt (volOk_blk HD.out n hlt2 (blkOk_bad HBB.out (.inr (.inl HCC.out))))]
                    exact ⟨rfl, HB.out.trans ((HBI.out.mono (by have := HB.out.size; omega)).alloc (by have := HB.out.size; have := HBI.out.size; omega) _)⟩
                  by_cases hp2 : b.text.size = 256
                  · have hts : ((b.text.size : Int) != 256) = false := by rw [hp2]; rfl
                    have HC2 := Lib.hid (show 0 ≤ b.pos ∧ b.pos < d.size ∧ b.text.size = 256 from ⟨by omega, by omega, hp2⟩); clear hp2
                    go_wp2_with fail
                    clear hp0 hp1 hts
                    have HBL2 := Lib.hid (HBI.out.alloc HBI.out.size (.cells #[.int .i64 b.pos, .string b.text] 56))
                    have hn0 : n = 0 ∨ ∃ i, n = i + 1 := by cases n with
                      | zero => exact .inl rfl
                      | succ i => exact .inr ⟨i, rfl⟩
                    have q3 : (wr.alloc (.cells #[.int .i64 b.pos, .string b.text] 56)).cell? ⟨wo.heap.size, 2, none⟩ = some (.slice (some ⟨bg, bo, none⟩) d.blocks.length bc) := by rw [World.cell?_alloc_past _ _ _ hlw]; exact q2
                    have q4 : (wr.alloc (.cells #[.int .i64 b.pos, .string b.text] 56)).cell? ⟨wo.heap.size, 1, none⟩ = some (.int .i64 d.size) := by rw [World.cell?_alloc_past _ _ _ hlw]; exact q1
                    rcases hn0 with hn0 | ⟨z, hn1⟩
                    · have hg3 : decide (0 < n) = false := by simp; omega
                      have HO2 := Lib.hid (show ∀ i q, n = i + 1 → d.blocks[i]? = some q → q.pos < b.pos from fun i q h => absurd h (by omega)); clear hn0
                      go_quiet (fail)
                      go_wp2_with fail
                      go_roundw
                      case rel =>
                        refine ⟨n + 1, by omega, by go_num, fun j hj => ?_, below_drewN' HBL2.out _, by simpa using q4, by simpa using q3⟩
                        by_cases e : j = n
                        · subst e; exact blkOk_good HBB.out HC2.out.1 HC2.out.2.1 HC2.out.2.2 HO2.out
                        · exact HBY.out j (by omega)
                      case measure => simp [intOf]; omega
                    · have hg3 : decide (0 < n) = true := by simp; omega
                      obtain ⟨q, hq⟩ : ∃ q, d.blocks[z]? = some q := ⟨_, List.getElem?_eq_getElem (by omega)⟩
                      obtain ⟨g', o', hp', k0, _⟩ := HBL.out.stays HBL2.out z q hq
                      cases hp'
                      have e5 : IntKind.i64.wrap ((n : Int) - 1) = (z : Int) := by rw [IntKind.wrap_i64]; omega
                      have e6 : (z : Int) < (d.blocks.length : Int) := by omega
                      have HQ := Lib.hid hq; clear hq
                      have HN := Lib.hid hn1
                      have HDN := Lib.hid (show d.blocks[z + 1]? = some b by rw [← hn1]; exact HBB.out)
                      clear hn1
                      by_cases ho : q.pos < b.pos
                      · have hbo : ¬ b.pos ≤ q.pos := by omega
                        have HO2 := Lib.hid (show ∀ i' q', n = i' + 1 → d.blocks[i']? = some q' → q'.pos < b.pos from fun i' q' h h2 => by
                          obtain rfl : z = i' := by have := HN.out; omega
                          rw [HQ.out] at h2; cases h2; exact ho)
                        clear ho
                        go_quiet (fail)
                        go_wp2_with fail
                        go_roundw
                        case rel =>
                          refine ⟨n + 1, by omega, by go_num, fun j hj => ?_, below_drewN' HBL2.out _, by simpa using q4, by simpa using q3⟩
                          by_cases e : j = n
                          · subst e; exact blkOk_good HBB.out HC2.out.1 HC2.out.2.1 HC2.out.2.2 HO2.out
                          · exact HBY.out j (by omega)
                        case measure => simp [intOf]; omega
                      · have hbo : b.pos ≤ q.pos := by omega
                        have HBO := Lib.hid hbo
                        clear ho
                        go_quiet (fail)
                        go_wp2_with fail
                        go_ret
                        rw [mayL_bad _ hlt (volOk_blk HD.out (z + 1) (by have := HN.out; omega) (blkOk_order HDN.out HQ.out HBO.out))]
                        exact ⟨rfl, HB.out.trans (below_drewN' (HBL2.out.mono HB.out.size) _)⟩
                  · have hts : ((b.text.size : Int) != 256) = true := by simp; omega
                    have HCC := Lib.hid hp2; clear hp2
                    go_wp2_with fail
                    go_ret
                    rw [mayL_bad _ hlt (volOk_blk HD.out n hlt2 (blkOk_bad HBB.out (.inr (.inr HCC.out))))]
                    exact ⟨rfl, HB.out.trans ((HBI.out.mono (by have := HB.out.size; omega)).alloc (by have := HB.out.size; have := HBI.out.size; omega) _)⟩
                · obtain rfl : n = d.blocks.length := by omega
                  go_wp2_with fail
                  go_roundw
                  case rel =>
                    refine ⟨k + 1, by omega, by go_num, fun j hj => ?_, HB.out.trans (HBI.out.mono HB.out.size)⟩
                    by_cases e : j = k
                    · subst e; exact volOk_good HD.out HC.out.1 HC.out.2.1 HC.out.2.2.1 HC.out.2.2.2 HO.out HBY.out
                    · exact HY.out j (by omega)
                  case measure => simp [intOf]; omega
            · have hbo : d.id ≤ q.id := by omega
              have HBO := Lib.hid hbo
              clear ho
              go_quiet (fail)
              go_wp2_with fail
              go_ret
              rw [mayL_bad (i + 1) (by have := HK.out; omega) (volOk_order HDK.out HQ.out HBO.out)]
              exact ⟨rfl, below_drewN' (HB.out.alloc HB.out.size _) _⟩
        · have hcc : d.id < 1 ∨ 1000 < d.id ∨ d.size < 0 ∨ 100000 < d.size := by omega
          have HC := Lib.hid hcc; clear hcc
          go_wp2_with fail
          all_goals
            go_ret
            rw [mayL_bad _ hlt (volOk_bad HD.out HC.out)]
            exact ⟨rfl, HB.out.alloc HB.out.size _⟩
      · obtain rfl : k = m.length := by omega
        go_wp2_with fail
        go_ret
        rw [mayL_good hlen HY.out]
        exact ⟨rfl, HB.out⟩
end Go.Proofs.YtgabifkechofnaaDoor
