/- The walk of the reference's May. -/
import Derived.Test.YtgabifkechofnaaDoorModRA
namespace Go.Proofs.YtgabifkechofnaaDoor
open Go.RowKit

def idB (n : Int) : Bool := decide (1 ≤ n) && decide (n ≤ 1000)
def szB (n : Int) : Bool := decide (0 ≤ n) && decide (n ≤ 100000)
theorem rid_b (n : Int) (w : World) : Calls Tryd.prog 36 #[.int .i64 n] w fun e w' => e = .returned (.bool (idB n)) ∧ w = w' := rid_any n w
theorem rsize_b (n : Int) (w : World) : Calls Tryd.prog 37 #[.int .i64 n] w fun e w' => e = .returned (.bool (szB n)) ∧ w = w' := rsize_any n w
theorem nat_cases (k : Nat) : k = 0 ∨ ∃ i, k = i + 1 := by cases k with
  | zero => exact .inl rfl
  | succ i => exact .inr ⟨i, rfl⟩

set_option maxRecDepth 100000 in
set_option maxHeartbeats 16000000 in
theorem rmay_any (m : List VolD) (v : Value) (w : World) (hm : ModelAt w v m) :
    Calls Tryd.prog 13 #[v] w fun e w' => e = .returned (.bool (mayL m)) ∧ Below w.heap.size w w' := by
  obtain ⟨p, c, rfl, hc1, hc2, hel⟩ := hm
  have HEL := Lib.hid hel; clear hel
  have hlen : m.length ≤ 9223372036854775807 := by unfold maxLen at hc2; omega
  clear hc1 hc2
  go_enter Tryd.func13, Tryd.ntmps13
  go_wp2_with fail
  go_loopw [3] (fun i wr => ∃ k : Nat, k ≤ m.length ∧ i = .int .i64 k ∧ (∀ j, j < k → volOk m j = true) ∧ Below w.heap.size w wr) (fun i _ => m.length - (intOf i).toNat)
  case atStart => exact ⟨0, Nat.zero_le _, rfl, fun j hj => by omega, Below.refl _ _⟩
  case round =>
    obtain ⟨k, hk, rfl, hyes, hb⟩ := hrel
    obtain ⟨wo, rfl⟩ : ∃ wo : World, wo = wr := ⟨_, rfl⟩
    have HY := Lib.hid hyes; have HB := Lib.hid hb
    clear hyes hb
    by_cases hlt : k < m.length
    case neg =>
      obtain rfl : k = m.length := by omega
      go_wp2_with fail
      go_ret
      refine ⟨ret_bool ?_, HB.out⟩
      by_cases h64 : m.length ≤ 64
      · rw [mayL_good h64 HY.out]; simp; omega
      · rw [mayL_long (by omega)]; simp; omega
    have hki : (k : Int) < (m.length : Int) := by omega
    obtain ⟨d, hd⟩ : ∃ d, m[k]? = some d := ⟨_, List.getElem?_eq_getElem hlt⟩
    obtain ⟨g, o, bp, bc, rfl, h0, h1, h2, hb1, hb2, hbl⟩ := HEL.out.stays HB.out k _ hd
    have hdl : d.blocks.length ≤ 9223372036854775807 := by unfold maxLen at hb2; omega
    have hbx := (Below.refl wo.heap.size wo).alloc (Nat.le_refl _) (.cells #[.int .i64 d.id, .int .i64 d.size, .slice bp d.blocks.length bc] 41)
    have HD := Lib.hid hd; have HBL := Lib.hid hbl; have HBX := Lib.hid hbx; clear hd hbl hb1 hb2 hbx
    by_cases hci : idB d.id = true
    case neg =>
      have hci' : idB d.id = false := by simpa using hci
      have HC := Lib.hid hci'; clear hci
      go_wp2_with fail
      go_quiet ((go_at_call 36; exact quiet_left (rid_b _ _)))
      go_wp2_with fail
      go_ret
      rw [mayL_bad k hlt (volOk_bad HD.out (by have h := HC.out; unfold idB at h; simp at h; omega))]
      exact ⟨rfl, below_drewN' (HB.out.trans (HBX.out.mono HB.out.size)) _⟩
    by_cases hcs : szB d.size = true
    case neg =>
      have hcs' : szB d.size = false := by simpa using hcs
      have HC := Lib.hid hcs'; clear hcs
      go_wp2_with fail
      go_quiet ((first | (go_at_call 36; exact quiet_left (rid_b _ _)) | (go_at_call 37; exact quiet_left (rsize_b _ _))))
      go_wp2_with fail
      go_ret
      rw [mayL_bad k hlt (volOk_bad HD.out (by have h := HC.out; unfold szB at h; simp at h; omega))]
      exact ⟨rfl, below_drewN' (HB.out.trans (HBX.out.mono HB.out.size)) _⟩
    have HC := Lib.hid (show (1 ≤ d.id ∧ d.id ≤ 1000) ∧ 0 ≤ d.size ∧ d.size ≤ 100000 by unfold idB at hci; unfold szB at hcs; simp at hci hcs; exact ⟨hci, hcs⟩)
    have hsz : d.size ≤ 100000 := HC.out.2.2
    by_cases hord : ∀ i q, k = i + 1 → m[i]? = some q → q.id < d.id
    case neg =>
      have hbad : ∃ i q, k = i + 1 ∧ m[i]? = some q ∧ d.id ≤ q.id := by
        apply Classical.byContradiction; intro hn
        exact hord fun i q e hq => Int.not_le.1 fun h => hn ⟨i, q, e, hq, h⟩
      clear hord
      obtain ⟨i, q, hk1, hq, hbo⟩ := hbad
      have hg : decide (0 < k) = true := by simp; omega
      obtain ⟨g', o', bp', bc', hp', k0, _⟩ := HEL.out.stays (HB.out.trans (HBX.out.mono HB.out.size)) i q hq
      cases hp'
      have e3 : IntKind.i64.wrap ((k : Int) - 1) = (i : Int) := by rw [IntKind.wrap_i64]; omega
      have e4 : (i : Int) < (m.length : Int) := by omega
      have HBAD := Lib.hid (volOk_order (show m[i + 1]? = some d by rw [← hk1]; exact HD.out) hq hbo)
      have HK := Lib.hid hk1
      clear hq hk1
      go_wp2_with fail
      go_quiet ((first | (go_at_call 36; exact quiet_left (rid_b _ _)) | (go_at_call 37; exact quiet_left (rsize_b _ _))))
      go_wp2_with fail
      go_ret
      rw [mayL_bad (i + 1) (by have := HK.out; omega) HBAD.out]
      exact ⟨rfl, below_drewN' (HB.out.trans (HBX.out.mono HB.out.size)) _⟩
    have HO := Lib.hid hord; clear hord
    rcases nat_cases k with hk0 | ⟨i, hk1⟩
    · have hg : decide (0 < k) = false := by simp; omega
      clear hk0
      go_wp2_with fail
      go_quiet ((first | (go_at_call 36; exact quiet_left (rid_b _ _)) | (go_at_call 37; exact quiet_left (rsize_b _ _))))
      go_wp2_with fail
      clear hg hci hcs
      go_loopw [5] (fun i wr => ∃ n : Nat, n ≤ d.blocks.length ∧ i = .int .i64 n ∧ (∀ j, j < n → blkOk d.size d.blocks j = true) ∧ Below wo.heap.size wo wr ∧ wr.cell? ⟨wo.heap.size, 1, none⟩ = some (.int .i64 d.size) ∧ wr.cell? ⟨wo.heap.size, 2, none⟩ = some (.slice bp d.blocks.length bc)) (fun i _ => d.blocks.length - (intOf i).toNat)
      case atStart => exact ⟨0, Nat.zero_le _, rfl, fun j hj => by omega, below_drewN' HBX.out _, by simp, by simp⟩
      case round =>
        obtain ⟨n, hn, rfl, hby, hbi, q1, q2⟩ := hrel
        have HBY := Lib.hid hby; have HBI := Lib.hid hbi
        clear hby hbi
        by_cases hlt2 : n < d.blocks.length
        case neg =>
          obtain rfl : n = d.blocks.length := by omega
          go_wp2_with fail
          go_roundw
          case rel =>
            refine ⟨k + 1, by omega, by go_num, fun j hj => ?_, HB.out.trans (HBI.out.mono HB.out.size)⟩
            by_cases e : j = k
            · subst e; exact volOk_good HD.out HC.out.1.1 HC.out.1.2 HC.out.2.1 HC.out.2.2 HO.out HBY.out
            · exact HY.out j (by omega)
          case measure => simp [intOf]; omega
        have hni : (n : Int) < (d.blocks.length : Int) := by omega
        obtain ⟨b, hb⟩ : ∃ b, d.blocks[n]? = some b := ⟨_, List.getElem?_eq_getElem hlt2⟩
        obtain ⟨bg, bo, rfl, y0, y1⟩ := HBL.out.stays HBI.out n _ hb
        have hlw : wo.heap.size < wr.heap.size := World.block_lt_of_cell? _ _ q1
        have HBB := Lib.hid hb; clear hb
        have HBL2 := Lib.hid (HBI.out.alloc HBI.out.size (.cells #[.int .i64 b.pos, .string b.text] 56))
        have q3 : (wr.alloc (.cells #[.int .i64 b.pos, .string b.text] 56)).cell? ⟨wo.heap.size, 2, none⟩ = some (.slice (some ⟨bg, bo, none⟩) d.blocks.length bc) := by rw [World.cell?_alloc_past _ _ _ hlw]; exact q2
        have q4 : (wr.alloc (.cells #[.int .i64 b.pos, .string b.text] 56)).cell? ⟨wo.heap.size, 1, none⟩ = some (.int .i64 d.size) := by rw [World.cell?_alloc_past _ _ _ hlw]; exact q1
        by_cases hp0 : b.pos < 0
        · have HCC := Lib.hid hp0
          go_wp2_with fail
          go_quiet (fail)
          go_wp2_with fail
          go_ret
          rw [mayL_bad _ hlt (volOk_blk HD.out n hlt2 (blkOk_bad HBB.out (.inl HCC.out)))]
          exact ⟨rfl, below_drewN' (HB.out.trans (HBL2.out.mono HB.out.size)) _⟩
        have hd0 : decide (b.pos < 0) = false := by simpa using hp0
        by_cases hp1 : d.size ≤ b.pos
        · have HCC := Lib.hid hp1
          go_wp2_with fail
          go_quiet (fail)
          go_wp2_with fail
          go_ret
          rw [mayL_bad _ hlt (volOk_blk HD.out n hlt2 (blkOk_bad HBB.out (.inr (.inl HCC.out))))]
          exact ⟨rfl, below_drewN' (HB.out.trans (HBL2.out.mono HB.out.size)) _⟩
        have hd1 : decide (d.size ≤ b.pos) = false := by simpa using hp1
        by_cases hp2 : b.text.size = 256
        case neg =>
          have hts : ((b.text.size : Int) != 256) = true := by simp; omega
          have HCC := Lib.hid hp2; clear hp2
          go_wp2_with fail
          go_quiet (fail)
          go_wp2_with fail
          go_ret
          rw [mayL_bad _ hlt (volOk_blk HD.out n hlt2 (blkOk_bad HBB.out (.inr (.inr HCC.out))))]
          exact ⟨rfl, below_drewN' (HB.out.trans (HBL2.out.mono HB.out.size)) _⟩
        have hts : ((b.text.size : Int) != 256) = false := by rw [hp2]; rfl
        have HC2 := Lib.hid (show 0 ≤ b.pos ∧ b.pos < d.size ∧ b.text.size = 256 from ⟨by omega, by omega, hp2⟩); clear hp2
        rcases nat_cases n with hn0 | ⟨z, hn1⟩
        · have hg3 : decide (0 < n) = false := by simp; omega
          have HO2 := Lib.hid (show ∀ i q, n = i + 1 → d.blocks[i]? = some q → q.pos < b.pos from fun i q h => absurd h (by omega)); clear hn0
          go_wp2_with fail
          go_quiet (fail)
          go_wp2_with fail
          go_roundw
          case rel =>
            refine ⟨n + 1, by omega, by go_num, fun j hj => ?_, below_drewN' HBL2.out _, by simpa using q4, by simpa using q3⟩
            by_cases e : j = n
            · subst e; exact blkOk_good HBB.out HC2.out.1 HC2.out.2.1 HC2.out.2.2 HO2.out
            · exact HBY.out j (by omega)
          case measure => simp [intOf]; omega
        · have hg3 : decide (0 < n) = true := by simp; omega
          obtain ⟨q, hq⟩ : ∃ q, d.blocks[z]? = some q := ⟨_, List.getElem?_eq_getElem (by omega)⟩
          obtain ⟨g', o', hp', k0, _⟩ := HBL.out.stays HBL2.out z q hq
          cases hp'
          have e5 : IntKind.i64.wrap ((n : Int) - 1) = (z : Int) := by rw [IntKind.wrap_i64]; omega
          have e6 : (z : Int) < (d.blocks.length : Int) := by omega
          have HQ := Lib.hid hq; clear hq
          have HN := Lib.hid hn1
          have HDN := Lib.hid (show d.blocks[z + 1]? = some b by rw [← hn1]; exact HBB.out)
          clear hn1
          by_cases ho : q.pos < b.pos
          · have hbo : decide (b.pos ≤ q.pos) = false := by simp; omega
            have HO2 := Lib.hid (show ∀ i' q', n = i' + 1 → d.blocks[i']? = some q' → q'.pos < b.pos from fun i' q' h h2 => by
              obtain rfl : z = i' := by have := HN.out; omega
              rw [HQ.out] at h2; cases h2; exact ho)
            clear ho
            go_wp2_with fail
            go_quiet (fail)
            go_wp2_with fail
            go_roundw
            case rel =>
              refine ⟨n + 1, by omega, by go_num, fun j hj => ?_, below_drewN' HBL2.out _, by simpa using q4, by simpa using q3⟩
              by_cases e : j = n
              · subst e; exact blkOk_good HBB.out HC2.out.1 HC2.out.2.1 HC2.out.2.2 HO2.out
              · exact HBY.out j (by omega)
            case measure => simp [intOf]; omega
          · have hbo : b.pos ≤ q.pos := by omega
            have HBO := Lib.hid hbo
            clear ho
            go_wp2_with fail
            go_quiet (fail)
            go_wp2_with fail
            go_ret
            rw [mayL_bad _ hlt (volOk_blk HD.out (z + 1) (by have := HN.out; omega) (blkOk_order HDN.out HQ.out HBO.out))]
            exact ⟨rfl, below_drewN' (HB.out.trans (HBL2.out.mono HB.out.size)) _⟩
    · have hg : decide (0 < k) = true := by simp; omega
      obtain ⟨q, hq⟩ : ∃ q, m[i]? = some q := ⟨_, List.getElem?_eq_getElem (by omega)⟩
      obtain ⟨g', o', bp', bc', hp', k0, _⟩ := HEL.out.stays (HB.out.trans (HBX.out.mono HB.out.size)) i q hq
      cases hp'
      have e3 : IntKind.i64.wrap ((k : Int) - 1) = (i : Int) := by rw [IntKind.wrap_i64]; omega
      have e4 : (i : Int) < (m.length : Int) := by omega
      have hbo : decide (d.id ≤ q.id) = false := by have := HO.out i q hk1 hq; simp; omega
      clear hq hk1
      go_wp2_with fail
      go_quiet ((first | (go_at_call 36; exact quiet_left (rid_b _ _)) | (go_at_call 37; exact quiet_left (rsize_b _ _))))
      go_wp2_with fail
      clear hg e3 e4 hbo k0 hci hcs
      go_loopw [5] (fun i wr => ∃ n : Nat, n ≤ d.blocks.length ∧ i = .int .i64 n ∧ (∀ j, j < n → blkOk d.size d.blocks j = true) ∧ Below wo.heap.size wo wr ∧ wr.cell? ⟨wo.heap.size, 1, none⟩ = some (.int .i64 d.size) ∧ wr.cell? ⟨wo.heap.size, 2, none⟩ = some (.slice bp d.blocks.length bc)) (fun i _ => d.blocks.length - (intOf i).toNat)
      case atStart => exact ⟨0, Nat.zero_le _, rfl, fun j hj => by omega, below_drewN' HBX.out _, by simp, by simp⟩
      case round =>
        obtain ⟨n, hn, rfl, hby, hbi, q1, q2⟩ := hrel
        have HBY := Lib.hid hby; have HBI := Lib.hid hbi
        clear hby hbi
        by_cases hlt2 : n < d.blocks.length
        case neg =>
          obtain rfl : n = d.blocks.length := by omega
          go_wp2_with fail
          go_roundw
          case rel =>
            refine ⟨k + 1, by omega, by go_num, fun j hj => ?_, HB.out.trans (HBI.out.mono HB.out.size)⟩
            by_cases e : j = k
            · subst e; exact volOk_good HD.out HC.out.1.1 HC.out.1.2 HC.out.2.1 HC.out.2.2 HO.out HBY.out
            · exact HY.out j (by omega)
          case measure => simp [intOf]; omega
        have hni : (n : Int) < (d.blocks.length : Int) := by omega
        obtain ⟨b, hb⟩ : ∃ b, d.blocks[n]? = some b := ⟨_, List.getElem?_eq_getElem hlt2⟩
        obtain ⟨bg, bo, rfl, y0, y1⟩ := HBL.out.stays HBI.out n _ hb
        have hlw : wo.heap.size < wr.heap.size := World.block_lt_of_cell? _ _ q1
        have HBB := Lib.hid hb; clear hb
        have HBL2 := Lib.hid (HBI.out.alloc HBI.out.size (.cells #[.int .i64 b.pos, .string b.text] 56))
        have q3 : (wr.alloc (.cells #[.int .i64 b.pos, .string b.text] 56)).cell? ⟨wo.heap.size, 2, none⟩ = some (.slice (some ⟨bg, bo, none⟩) d.blocks.length bc) := by rw [World.cell?_alloc_past _ _ _ hlw]; exact q2
        have q4 : (wr.alloc (.cells #[.int .i64 b.pos, .string b.text] 56)).cell? ⟨wo.heap.size, 1, none⟩ = some (.int .i64 d.size) := by rw [World.cell?_alloc_past _ _ _ hlw]; exact q1
        by_cases hp0 : b.pos < 0
        · have HCC := Lib.hid hp0
          go_wp2_with fail
          go_quiet (fail)
          go_wp2_with fail
          go_ret
          rw [mayL_bad _ hlt (volOk_blk HD.out n hlt2 (blkOk_bad HBB.out (.inl HCC.out)))]
          exact ⟨rfl, below_drewN' (HB.out.trans (HBL2.out.mono HB.out.size)) _⟩
        have hd0 : decide (b.pos < 0) = false := by simpa using hp0
        by_cases hp1 : d.size ≤ b.pos
        · have HCC := Lib.hid hp1
          go_wp2_with fail
          go_quiet (fail)
          go_wp2_with fail
          go_ret
          rw [mayL_bad _ hlt (volOk_blk HD.out n hlt2 (blkOk_bad HBB.out (.inr (.inl HCC.out))))]
          exact ⟨rfl, below_drewN' (HB.out.trans (HBL2.out.mono HB.out.size)) _⟩
        have hd1 : decide (d.size ≤ b.pos) = false := by simpa using hp1
        by_cases hp2 : b.text.size = 256
        case neg =>
          have hts : ((b.text.size : Int) != 256) = true := by simp; omega
          have HCC := Lib.hid hp2; clear hp2
          go_wp2_with fail
          go_quiet (fail)
          go_wp2_with fail
          go_ret
          rw [mayL_bad _ hlt (volOk_blk HD.out n hlt2 (blkOk_bad HBB.out (.inr (.inr HCC.out))))]
          exact ⟨rfl, below_drewN' (HB.out.trans (HBL2.out.mono HB.out.size)) _⟩
        have hts : ((b.text.size : Int) != 256) = false := by rw [hp2]; rfl
        have HC2 := Lib.hid (show 0 ≤ b.pos ∧ b.pos < d.size ∧ b.text.size = 256 from ⟨by omega, by omega, hp2⟩); clear hp2
        rcases nat_cases n with hn0 | ⟨z, hn1⟩
        · have hg3 : decide (0 < n) = false := by simp; omega
          have HO2 := Lib.hid (show ∀ i q, n = i + 1 → d.blocks[i]? = some q → q.pos < b.pos from fun i q h => absurd h (by omega)); clear hn0
          go_wp2_with fail
          go_quiet (fail)
          go_wp2_with fail
          go_roundw
          case rel =>
            refine ⟨n + 1, by omega, by go_num, fun j hj => ?_, below_drewN' HBL2.out _, by simpa using q4, by simpa using q3⟩
            by_cases e : j = n
            · subst e; exact blkOk_good HBB.out HC2.out.1 HC2.out.2.1 HC2.out.2.2 HO2.out
            · exact HBY.out j (by omega)
          case measure => simp [intOf]; omega
        · have hg3 : decide (0 < n) = true := by simp; omega
          obtain ⟨q, hq⟩ : ∃ q, d.blocks[z]? = some q := ⟨_, List.getElem?_eq_getElem (by omega)⟩
          obtain ⟨g', o', hp', k0, _⟩ := HBL.out.stays HBL2.out z q hq
          cases hp'
          have e5 : IntKind.i64.wrap ((n : Int) - 1) = (z : Int) := by rw [IntKind.wrap_i64]; omega
          have e6 : (z : Int) < (d.blocks.length : Int) := by omega
          have HQ := Lib.hid hq; clear hq
          have HN := Lib.hid hn1
          have HDN := Lib.hid (show d.blocks[z + 1]? = some b by rw [← hn1]; exact HBB.out)
          clear hn1
          by_cases ho : q.pos < b.pos
          · have hbo : decide (b.pos ≤ q.pos) = false := by simp; omega
            have HO2 := Lib.hid (show ∀ i' q', n = i' + 1 → d.blocks[i']? = some q' → q'.pos < b.pos from fun i' q' h h2 => by
              obtain rfl : z = i' := by have := HN.out; omega
              rw [HQ.out] at h2; cases h2; exact ho)
            clear ho
            go_wp2_with fail
            go_quiet (fail)
            go_wp2_with fail
            go_roundw
            case rel =>
              refine ⟨n + 1, by omega, by go_num, fun j hj => ?_, below_drewN' HBL2.out _, by simpa using q4, by simpa using q3⟩
              by_cases e : j = n
              · subst e; exact blkOk_good HBB.out HC2.out.1 HC2.out.2.1 HC2.out.2.2 HO2.out
              · exact HBY.out j (by omega)
            case measure => simp [intOf]; omega
          · have hbo : b.pos ≤ q.pos := by omega
            have HBO := Lib.hid hbo
            clear ho
            go_wp2_with fail
            go_quiet (fail)
            go_wp2_with fail
            go_ret
            rw [mayL_bad _ hlt (volOk_blk HD.out (z + 1) (by have := HN.out; omega) (blkOk_order HDN.out HQ.out HBO.out))]
            exact ⟨rfl, below_drewN' (HB.out.trans (HBL2.out.mono HB.out.size)) _⟩
end Go.Proofs.YtgabifkechofnaaDoor
