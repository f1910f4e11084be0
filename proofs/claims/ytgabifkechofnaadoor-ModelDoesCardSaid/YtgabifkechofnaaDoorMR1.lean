/- append onto a row that the call owns, of whatever source: nil, empty or not. No program in sight. · The walks of the reference's small functions: ID, Size, Find, Small, Blank, Read. · The walk of the reference's May. · The walk of the reference's Same. · The walks of the reference's Without and With. · The walks of the reference's Cut, Blank and Read. · The walk of the reference's Write. -/
import Derived.Test.YtgabifkechofnaaDoorVec
import Derived.Maps.AppendAt
import Derived.Laws.AppendOwnNone
import Derived.Test.YtgabifkechofnaaDoorModG
import Derived.Test.YtgabifkechofnaaDoorModL
import Derived.Test.YtgabifkechofnaaDoorModV
import Derived.Test.YtgabifkechofnaaDoorModI
import Derived.Deep.RegionLaw
import Derived.Deep.AppendLies
import Derived.Deep.RegionHeld3
import Derived.Deep.DeepCutAuto
namespace Go.Proofs.YtgabifkechofnaaDoor
open Go.RowKit

theorem run_append_src {P : Program} (w : World) (base : Nat) (t ty e : TypeId) (i : TypeInfo) (z : Value) (size bytes : Nat) (ht : P.underlying t = some (.slice e)) (hi : P.info? e = some i) (hz : i.zero = some z)
    (hsize : i.size = size) (hby : i.bytes = bytes) (hzs : z.cells.size = size) (hsz : 0 < size) (v : Value) (n : Nat) (xs : List Value) (hown : w.ownsRow base e size v n xs)
    (p : Option Addr) (m c : Nat) (news : List Value) (hsrc : SrcAt w p m size news) (hc : p = none → c = 0) (h63 : n + m ≤ maxLen) (hbytes : (n + m) * bytes ≤ 140737488355328) (hbase : base ≤ w.heap.size) :
    ∃ v' w', (Builtin.append_ #[t, t] ty #[v, .slice p m c]).run P w = .ok v' w' ∧ w'.ownsRow base e size v' (n + m) (xs ++ news) ∧ w.grownBy w' v.ownBlock := by
  cases p with
  | none =>
    obtain rfl := hsrc.2.1 rfl
    obtain rfl := hc rfl
    obtain rfl : news = [] := List.eq_nil_of_length_eq_zero (by have := hsrc.1; simpa using this)
    exact ⟨v, w, run_append_owned_none (P := P) (w := w) base t ty e i size ht hi v n xs hown, by simpa using hown, grown_refl _ _⟩
  | some a =>
    obtain ⟨v', w', h1, h2, h3, _⟩ := run_append_own_at (P := P) w base t ty e i z size bytes ht hi hz hsize hby hzs hsz v n xs hown a m c news hsrc.1 (hsrc.2.2.2 a rfl) hsrc.2.2.1 h63 hbytes hbase
    exact ⟨v', w', h1, h2, h3⟩
end Go.Proofs.YtgabifkechofnaaDoor
namespace Go.Proofs.YtgabifkechofnaaDoor
open Go.RowKit

theorem rid_any (n : Int) (w : World) : Calls Tryd.prog 36 #[.int .i64 n] w fun e w' => e = .returned (.bool (decide (1 ≤ n) && decide (n ≤ 1000))) ∧ w = w' := by
  go_enter Tryd.func36, Tryd.ntmps36
  go_wp2_with fail
  all_goals
    go_ret
    exact ⟨ret_bool (by simp_all <;> omega), rfl⟩
theorem rsize_any (n : Int) (w : World) : Calls Tryd.prog 37 #[.int .i64 n] w fun e w' => e = .returned (.bool (decide (0 ≤ n) && decide (n ≤ 100000))) ∧ w = w' := by
  go_enter Tryd.func37, Tryd.ntmps37
  go_wp2_with fail
  all_goals
    go_ret
    exact ⟨ret_bool (by simp_all <;> omega), rfl⟩

def findI (m : List VolD) (id : Int) : Int := match findL m id with | none => -1 | some i => (i : Int)
theorem rfind_any (m : List VolD) (id : Int) (v : Value) (w : World) (hm : ModelAt w v m) :
    Calls Tryd.prog 16 #[v, .int .i64 id] w fun e w' => e = .returned (.int .i64 (findI m id)) ∧ w = w' := by
  obtain ⟨p, c, rfl, hc1, hc2, hel⟩ := hm
  have HEL := Lib.hid hel; clear hel
  have hlen : m.length ≤ 9223372036854775807 := by unfold maxLen at hc2; omega
  clear hc1 hc2
  go_enter Tryd.func16, Tryd.ntmps16
  go_wp2_with fail
  go_loop [5] (fun i => ∃ k : Nat, k ≤ m.length ∧ i = .int .i64 k ∧ (∀ j, j < k → ∀ d, m[j]? = some d → d.id ≠ id)) (fun i => m.length - (intOf i).toNat)
  case atStart => exact ⟨0, Nat.zero_le _, rfl, fun j hj => by omega⟩
  case round =>
    obtain ⟨k, hk, rfl, hno⟩ := hrel
    have HNO := Lib.hid hno
    clear hno
    by_cases hlt : k < m.length
    · have hki : (k : Int) < (m.length : Int) := by omega
      obtain ⟨g, o, bp, bc, rfl, h0, h1, h2, _⟩ := HEL.out k _ (List.getElem?_eq_getElem hlt)
      have hd := List.getElem?_eq_getElem hlt
      have HD := Lib.hid hd; clear hd
      by_cases he : m[k].id = id
      · have hbe : (m[k].id == id) = true := by simpa using he
        have HE := Lib.hid he; clear he
        go_wp2_with fail
        go_ret
        exact ⟨ret_int (by unfold findI; rw [findL_some HD.out HE.out HNO.out]), rfl⟩
      · have hbe : (m[k].id == id) = false := by simpa using he
        have HE := Lib.hid he; clear he
        go_wp2_with fail
        go_round
        case rel =>
          refine ⟨k + 1, by omega, by go_num, fun j hj d hd => ?_⟩
          by_cases e : j = k
          · subst e; rw [HD.out] at hd; cases hd; exact HE.out
          · exact HNO.out j (by omega) d hd
        case measure => simp [intOf]; omega
    · obtain rfl : k = m.length := by omega
      go_wp2_with fail
      go_ret
      exact ⟨ret_int (by unfold findI; rw [findL_none HNO.out]), rfl⟩

def smallB (m : List VolD) : Bool := (m.all fun d => decide (d.blocks.length ≤ 60)) && decide (m.length ≤ 70)
theorem small_any (m : List VolD) (v : Value) (w : World) (hm : ModelAt w v m) :
    Calls Tryd.prog 8 #[v] w fun e w' => e = .returned (.bool (smallB m)) ∧ w = w' := by
  obtain ⟨p, c, rfl, hc1, hc2, hel⟩ := hm
  have HEL := Lib.hid hel; clear hel
  have hlen : m.length ≤ 9223372036854775807 := by unfold maxLen at hc2; omega
  clear hc1 hc2
  go_enter Tryd.func8, Tryd.ntmps8
  go_wp2_with fail
  go_loop [3] (fun i => ∃ k : Nat, k ≤ m.length ∧ i = .int .i64 k ∧ (∀ j, j < k → ∀ d, m[j]? = some d → d.blocks.length ≤ 60)) (fun i => m.length - (intOf i).toNat)
  case atStart => exact ⟨0, Nat.zero_le _, rfl, fun j hj => by omega⟩
  case round =>
    obtain ⟨k, hk, rfl, hno⟩ := hrel
    have HNO := Lib.hid hno
    clear hno
    by_cases hlt : k < m.length
    · have hki : (k : Int) < (m.length : Int) := by omega
      obtain ⟨d, hd⟩ : ∃ d, m[k]? = some d := ⟨_, List.getElem?_eq_getElem hlt⟩
      obtain ⟨g, o, bp, bc, rfl, h0, h1, h2, hb1, hb2, _⟩ := HEL.out k d hd
      have hbl : (d.blocks.length : Int) ≤ 9223372036854775807 := by unfold maxLen at hb2; omega
      have HD := Lib.hid hd; clear hd
      by_cases he : 60 < d.blocks.length
      · have hbe : (60 : Int) < (d.blocks.length : Int) := by omega
        go_wp2_with fail
        go_ret
        refine ⟨ret_bool ?_, rfl⟩
        unfold smallB
        rw [eq_comm, Bool.and_eq_false_iff]; left
        rw [List.all_eq_false]
        exact ⟨d, List.mem_of_getElem? HD.out, by simpa using he⟩
      · have hbe : ¬ (60 : Int) < (d.blocks.length : Int) := by omega
        go_wp2_with fail
        go_round
        case rel =>
          refine ⟨k + 1, by omega, by go_num, fun j hj d' hd' => ?_⟩
          by_cases e : j = k
          · subst e; rw [HD.out] at hd'; cases hd'; omega
          · exact HNO.out j (by omega) d' hd'
        case measure => simp [intOf]; omega
    · obtain rfl : k = m.length := by omega
      go_wp2_with fail
      go_ret
      refine ⟨ret_bool ?_, rfl⟩
      unfold smallB
      rw [List.all_eq_true.2 (fun d hd => by
        obtain ⟨j, hj⟩ := List.mem_iff_getElem?.1 hd
        exact decide_eq_true (HNO.out j (List.getElem?_eq_some_iff.1 hj).1 d hj)), Bool.true_and]
      exact decide_eq_decide.2 (by omega)
end Go.Proofs.YtgabifkechofnaaDoor
namespace Go.Proofs.YtgabifkechofnaaDoor
open Go.RowKit

def idB (n : Int) : Bool := decide (1 ≤ n) && decide (n ≤ 1000)
def szB (n : Int) : Bool := decide (0 ≤ n) && decide (n ≤ 100000)
theorem rid_b (n : Int) (w : World) : Calls Tryd.prog 36 #[.int .i64 n] w fun e w' => e = .returned (.bool (idB n)) ∧ w = w' := rid_any n w
theorem rsize_b (n : Int) (w : World) : Calls Tryd.prog 37 #[.int .i64 n] w fun e w' => e = .returned (.bool (szB n)) ∧ w = w' := rsize_any n w
theorem nat_cases (k : Nat) : k = 0 ∨ ∃ i, k = i + 1 := by cases k with
  | zero => exact .inl rfl
  | succ i => exact .inr ⟨i, rfl⟩

set_option maxRecDepth 100000 in
set_option maxHeartbeats 16000000 in
theorem rmay_any (m : List VolD) (v : Value) (w : World) (hm : ModelAt w v m) :
    Calls Tryd.prog 13 #[v] w fun e w' => e = .returned (.bool (mayL m)) ∧ Below w.heap.size w w' := by
  obtain ⟨p, c, rfl, hc1, hc2, hel⟩ := hm
  have HEL := Lib.hid hel; clear hel
  have hlen : m.length ≤ 9223372036854775807 := by unfold maxLen at hc2; omega
  clear hc1 hc2
  go_enter Tryd.func13, Tryd.ntmps13
  go_wp2_with fail
  go_loopw [3] (fun i wr => ∃ k : Nat, k ≤ m.length ∧ i = .int .i64 k ∧ (∀ j, j < k → volOk m j = true) ∧ Below w.heap.size w wr) (fun i _ => m.length - (intOf i).toNat)
  case atStart => exact ⟨0, Nat.zero_le _, rfl, fun j hj => by omega, Below.refl _ _⟩
  case round =>
    obtain ⟨k, hk, rfl, hyes, hb⟩ := hrel
    obtain ⟨wo, rfl⟩ : ∃ wo : World, wo = wr := ⟨_, rfl⟩
    have HY := Lib.hid hyes; have HB := Lib.hid hb
    clear hyes hb
    by_cases hlt : k < m.length
    case neg =>
      obtain rfl : k = m.length := by omega
      go_wp2_with fail
      go_ret
      refine ⟨ret_bool ?_, HB.out⟩
      by_cases h64 : m.length ≤ 64
      · rw [mayL_good h64 HY.out]; simp; omega
      · rw [mayL_long (by omega)]; simp; omega
    have hki : (k : Int) < (m.length : Int) := by omega
    obtain ⟨d, hd⟩ : ∃ d, m[k]? = some d := ⟨_, List.getElem?_eq_getElem hlt⟩
    obtain ⟨g, o, bp, bc, rfl, h0, h1, h2, hb1, hb2, hbl⟩ := HEL.out.stays HB.out k _ hd
    have hdl : d.blocks.length ≤ 9223372036854775807 := by unfold maxLen at hb2; omega
    have hbx := (Below.refl wo.heap.size wo).alloc (Nat.le_refl _) (.cells #[.int .i64 d.id, .int .i64 d.size, .slice bp d.blocks.length bc] 41)
    have HD := Lib.hid hd; have HBL := Lib.hid hbl; have HBX := Lib.hid hbx; clear hd hbl hb1 hb2 hbx
    by_cases hci : idB d.id = true
    case neg =>
      have hci' : idB d.id = false := by simpa using hci
      have HC := Lib.hid hci'; clear hci
      go_wp2_with fail
      go_quiet ((go_at_call 36; exact quiet_left (rid_b _ _)))
      go_wp2_with fail
      go_ret
      rw [mayL_bad k hlt (volOk_bad HD.out (by have h := HC.out; unfold idB at h; simp at h; omega))]
      exact ⟨rfl, below_drewN' (HB.out.trans (HBX.out.mono HB.out.size)) _⟩
    by_cases hcs : szB d.size = true
    case neg =>
      have hcs' : szB d.size = false := by simpa using hcs
      have HC := Lib.hid hcs'; clear hcs
      go_wp2_with fail
      go_quiet ((first | (go_at_call 36; exact quiet_left (rid_b _ _)) | (go_at_call 37; exact quiet_left (rsize_b _ _))))
      go_wp2_with fail
      go_ret
      rw [mayL_bad k hlt (volOk_bad HD.out (by have h := HC.out; unfold szB at h; simp at h; omega))]
      exact ⟨rfl, below_drewN' (HB.out.trans (HBX.out.mono HB.out.size)) _⟩
    have HC := Lib.hid (show (1 ≤ d.id ∧ d.id ≤ 1000) ∧ 0 ≤ d.size ∧ d.size ≤ 100000 by unfold idB at hci; unfold szB at hcs; simp at hci hcs; exact ⟨hci, hcs⟩)
    have hsz : d.size ≤ 100000 := HC.out.2.2
    by_cases hord : ∀ i q, k = i + 1 → m[i]? = some q → q.id < d.id
    case neg =>
      have hbad : ∃ i q, k = i + 1 ∧ m[i]? = some q ∧ d.id ≤ q.id := by
        apply Classical.byContradiction; intro hn
        exact hord fun i q e hq => Int.not_le.1 fun h => hn ⟨i, q, e, hq, h⟩
      clear hord
      obtain ⟨i, q, hk1, hq, hbo⟩ := hbad
      have hg : decide (0 < k) = true := by simp; omega
      obtain ⟨g', o', bp', bc', hp', k0, _⟩ := HEL.out.stays (HB.out.trans (HBX.out.mono HB.out.size)) i q hq
      cases hp'
      have e3 : IntKind.i64.wrap ((k : Int) - 1) = (i : Int) := by rw [IntKind.wrap_i64]; omega
      have e4 : (i : Int) < (m.length : Int) := by omega
      have HBAD := Lib.hid (volOk_order (show m[i + 1]? = some d by rw [← hk1]; exact HD.out) hq hbo)
      have HK := Lib.hid hk1
      clear hq hk1
      go_wp2_with fail
      go_quiet ((first | (go_at_call 36; exact quiet_left (rid_b _ _)) | (go_at_call 37; exact quiet_left (rsize_b _ _))))
      go_wp2_with fail
      go_ret
      rw [mayL_bad (i + 1) (by have := HK.out; omega) HBAD.out]
      exact ⟨rfl, below_drewN' (HB.out.trans (HBX.out.mono HB.out.size)) _⟩
    have HO := Lib.hid hord; clear hord
    rcases nat_cases k with hk0 | ⟨i, hk1⟩
    · have hg : decide (0 < k) = false := by simp; omega
      clear hk0
      go_wp2_with fail
      go_quiet ((first | (go_at_call 36; exact quiet_left (rid_b _ _)) | (go_at_call 37; exact quiet_left (rsize_b _ _))))
      go_wp2_with fail
      clear hg hci hcs
      go_loopw [5] (fun i wr => ∃ n : Nat, n ≤ d.blocks.length ∧ i = .int .i64 n ∧ (∀ j, j < n → blkOk d.size d.blocks j = true) ∧ Below wo.heap.size wo wr ∧ wr.cell? ⟨wo.heap.size, 1, none⟩ = some (.int .i64 d.size) ∧ wr.cell? ⟨wo.heap.size, 2, none⟩ = some (.slice bp d.blocks.length bc)) (fun i _ => d.blocks.length - (intOf i).toNat)
      case atStart => exact ⟨0, Nat.zero_le _, rfl, fun j hj => by omega, below_drewN' HBX.out _, by simp, by simp⟩
      case round =>
        obtain ⟨n, hn, rfl, hby, hbi, q1, q2⟩ := hrel
        have HBY := Lib.hid hby; have HBI := Lib.hid hbi
        clear hby hbi
        by_cases hlt2 : n < d.blocks.length
        case neg =>
          obtain rfl : n = d.blocks.length := by omega
          go_wp2_with fail
          go_roundw
          case rel =>
            refine ⟨k + 1, by omega, by go_num, fun j hj => ?_, HB.out.trans (HBI.out.mono HB.out.size)⟩
            by_cases e : j = k
            · subst e; exact volOk_good HD.out HC.out.1.1 HC.out.1.2 HC.out.2.1 HC.out.2.2 HO.out HBY.out
            · exact HY.out j (by omega)
          case measure => simp [intOf]; omega
        have hni : (n : Int) < (d.blocks.length : Int) := by omega
        obtain ⟨b, hb⟩ : ∃ b, d.blocks[n]? = some b := ⟨_, List.getElem?_eq_getElem hlt2⟩
        obtain ⟨bg, bo, rfl, y0, y1⟩ := HBL.out.stays HBI.out n _ hb
        have hlw : wo.heap.size < wr.heap.size := World.block_lt_of_cell? _ _ q1
        have HBB := Lib.hid hb; clear hb
        have HBL2 := Lib.hid (HBI.out.alloc HBI.out.size (.cells #[.int .i64 b.pos, .string b.text] 56))
        have q3 : (wr.alloc (.cells #[.int .i64 b.pos, .string b.text] 56)).cell? ⟨wo.heap.size, 2, none⟩ = some (.slice (some ⟨bg, bo, none⟩) d.blocks.length bc) := by rw [World.cell?_alloc_past _ _ _ hlw]; exact q2
        have q4 : (wr.alloc (.cells #[.int .i64 b.pos, .string b.text] 56)).cell? ⟨wo.heap.size, 1, none⟩ = some (.int .i64 d.size) := by rw [World.cell?_alloc_past _ _ _ hlw]; exact q1
        by_cases hp0 : b.pos < 0
        · have HCC := Lib.hid hp0
          go_wp2_with fail
          go_quiet (fail)
          go_wp2_with fail
          go_ret
          rw [mayL_bad _ hlt (volOk_blk HD.out n hlt2 (blkOk_bad HBB.out (.inl HCC.out)))]
          exact ⟨rfl, below_drewN' (HB.out.trans (HBL2.out.mono HB.out.size)) _⟩
        have hd0 : decide (b.pos < 0) = false := by simpa using hp0
        by_cases hp1 : d.size ≤ b.pos
        · have HCC := Lib.hid hp1
          go_wp2_with fail
          go_quiet (fail)
          go_wp2_with fail
          go_ret
          rw [mayL_bad _ hlt (volOk_blk HD.out n hlt2 (blkOk_bad HBB.out (.inr (.inl HCC.out))))]
          exact ⟨rfl, below_drewN' (HB.out.trans (HBL2.out.mono HB.out.size)) _⟩
        have hd1 : decide (d.size ≤ b.pos) = false := by simpa using hp1
        by_cases hp2 : b.text.size = 256
        case neg =>
          have hts : ((b.text.size : Int) != 256) = true := by simp; omega
          have HCC := Lib.hid hp2; clear hp2
          go_wp2_with fail
          go_quiet (fail)
          go_wp2_with fail
          go_ret
          rw [mayL_bad _ hlt (volOk_blk HD.out n hlt2 (blkOk_bad HBB.out (.inr (.inr HCC.out))))]
          exact ⟨rfl, below_drewN' (HB.out.trans (HBL2.out.mono HB.out.size)) _⟩
        have hts : ((b.text.size : Int) != 256) = false := by rw [hp2]; rfl
        have HC2 := Lib.hid (show 0 ≤ b.pos ∧ b.pos < d.size ∧ b.text.size = 256 from ⟨by omega, by omega, hp2⟩); clear hp2
        rcases nat_cases n with hn0 | ⟨z, hn1⟩
        · have hg3 : decide (0 < n) = false := by simp; omega
          have HO2 := Lib.hid (show ∀ i q, n = i + 1 → d.blocks[i]? = some q → q.pos < b.pos from fun i q h => absurd h (by omega)); clear hn0
          go_wp2_with fail
          go_quiet (fail)
          go_wp2_with fail
          go_roundw
          case rel =>
            refine ⟨n + 1, by omega, by go_num, fun j hj => ?_, below_drewN' HBL2.out _, by simpa using q4, by simpa using q3⟩
            by_cases e : j = n
            · subst e; exact blkOk_good HBB.out HC2.out.1 HC2.out.2.1 HC2.out.2.2 HO2.out
            · exact HBY.out j (by omega)
          case measure => simp [intOf]; omega
        · have hg3 : decide (0 < n) = true := by simp; omega
          obtain ⟨q, hq⟩ : ∃ q, d.blocks[z]? = some q := ⟨_, List.getElem?_eq_getElem (by omega)⟩
          obtain ⟨g', o', hp', k0, _⟩ := HBL.out.stays HBL2.out z q hq
          cases hp'
          have e5 : IntKind.i64.wrap ((n : Int) - 1) = (z : Int) := by rw [IntKind.wrap_i64]; omega
          have e6 : (z : Int) < (d.blocks.length : Int) := by omega
          have HQ := Lib.hid hq; clear hq
          have HN := Lib.hid hn1
          have HDN := Lib.hid (show d.blocks[z + 1]? = some b by rw [← hn1]; exact HBB.out)
          clear hn1
          by_cases ho : q.pos < b.pos
          · have hbo : decide (b.pos ≤ q.pos) = false := by simp; omega
            have HO2 := Lib.hid (show ∀ i' q', n = i' + 1 → d.blocks[i']? = some q' → q'.pos < b.pos from fun i' q' h h2 => by
              obtain rfl : z = i' := by have := HN.out; omega
              rw [HQ.out] at h2; cases h2; exact ho)
            clear ho
            go_wp2_with fail
            go_quiet (fail)
            go_wp2_with fail
            go_roundw
            case rel =>
              refine ⟨n + 1, by omega, by go_num, fun j hj => ?_, below_drewN' HBL2.out _, by simpa using q4, by simpa using q3⟩
              by_cases e : j = n
              · subst e; exact blkOk_good HBB.out HC2.out.1 HC2.out.2.1 HC2.out.2.2 HO2.out
              · exact HBY.out j (by omega)
            case measure => simp [intOf]; omega
          · have hbo : b.pos ≤ q.pos := by omega
            have HBO := Lib.hid hbo
            clear ho
            go_wp2_with fail
            go_quiet (fail)
            go_wp2_with fail
            go_ret
            rw [mayL_bad _ hlt (volOk_blk HD.out (z + 1) (by have := HN.out; omega) (blkOk_order HDN.out HQ.out HBO.out))]
            exact ⟨rfl, below_drewN' (HB.out.trans (HBL2.out.mono HB.out.size)) _⟩
    · have hg : decide (0 < k) = true := by simp; omega
      obtain ⟨q, hq⟩ : ∃ q, m[i]? = some q := ⟨_, List.getElem?_eq_getElem (by omega)⟩
      obtain ⟨g', o', bp', bc', hp', k0, _⟩ := HEL.out.stays (HB.out.trans (HBX.out.mono HB.out.size)) i q hq
      cases hp'
      have e3 : IntKind.i64.wrap ((k : Int) - 1) = (i : Int) := by rw [IntKind.wrap_i64]; omega
      have e4 : (i : Int) < (m.length : Int) := by omega
      have hbo : decide (d.id ≤ q.id) = false := by have := HO.out i q hk1 hq; simp; omega
      clear hq hk1
      go_wp2_with fail
      go_quiet ((first | (go_at_call 36; exact quiet_left (rid_b _ _)) | (go_at_call 37; exact quiet_left (rsize_b _ _))))
      go_wp2_with fail
      clear hg e3 e4 hbo k0 hci hcs
      go_loopw [5] (fun i wr => ∃ n : Nat, n ≤ d.blocks.length ∧ i = .int .i64 n ∧ (∀ j, j < n → blkOk d.size d.blocks j = true) ∧ Below wo.heap.size wo wr ∧ wr.cell? ⟨wo.heap.size, 1, none⟩ = some (.int .i64 d.size) ∧ wr.cell? ⟨wo.heap.size, 2, none⟩ = some (.slice bp d.blocks.length bc)) (fun i _ => d.blocks.length - (intOf i).toNat)
      case atStart => exact ⟨0, Nat.zero_le _, rfl, fun j hj => by omega, below_drewN' HBX.out _, by simp, by simp⟩
      case round =>
        obtain ⟨n, hn, rfl, hby, hbi, q1, q2⟩ := hrel
        have HBY := Lib.hid hby; have HBI := Lib.hid hbi
        clear hby hbi
        by_cases hlt2 : n < d.blocks.length
        case neg =>
          obtain rfl : n = d.blocks.length := by omega
          go_wp2_with fail
          go_roundw
          case rel =>
            refine ⟨k + 1, by omega, by go_num, fun j hj => ?_, HB.out.trans (HBI.out.mono HB.out.size)⟩
            by_cases e : j = k
            · subst e; exact volOk_good HD.out HC.out.1.1 HC.out.1.2 HC.out.2.1 HC.out.2.2 HO.out HBY.out
            · exact HY.out j (by omega)
          case measure => simp [intOf]; omega
        have hni : (n : Int) < (d.blocks.length : Int) := by omega
        obtain ⟨b, hb⟩ : ∃ b, d.blocks[n]? = some b := ⟨_, List.getElem?_eq_getElem hlt2⟩
        obtain ⟨bg, bo, rfl, y0, y1⟩ := HBL.out.stays HBI.out n _ hb
        have hlw : wo.heap.size < wr.heap.size := World.block_lt_of_cell? _ _ q1
        have HBB := Lib.hid hb; clear hb
        have HBL2 := Lib.hid (HBI.out.alloc HBI.out.size (.cells #[.int .i64 b.pos, .string b.text] 56))
        have q3 : (wr.alloc (.cells #[.int .i64 b.pos, .string b.text] 56)).cell? ⟨wo.heap.size, 2, none⟩ = some (.slice (some ⟨bg, bo, none⟩) d.blocks.length bc) := by rw [World.cell?_alloc_past _ _ _ hlw]; exact q2
        have q4 : (wr.alloc (.cells #[.int .i64 b.pos, .string b.text] 56)).cell? ⟨wo.heap.size, 1, none⟩ = some (.int .i64 d.size) := by rw [World.cell?_alloc_past _ _ _ hlw]; exact q1
        by_cases hp0 : b.pos < 0
        · have HCC := Lib.hid hp0
          go_wp2_with fail
          go_quiet (fail)
          go_wp2_with fail
          go_ret
          rw [mayL_bad _ hlt (volOk_blk HD.out n hlt2 (blkOk_bad HBB.out (.inl HCC.out)))]
          exact ⟨rfl, below_drewN' (HB.out.trans (HBL2.out.mono HB.out.size)) _⟩
        have hd0 : decide (b.pos < 0) = false := by simpa using hp0
        by_cases hp1 : d.size ≤ b.pos
        · have HCC := Lib.hid hp1
          go_wp2_with fail
          go_quiet (fail)
          go_wp2_with fail
          go_ret
          rw [mayL_bad _ hlt (volOk_blk HD.out n hlt2 (blkOk_bad HBB.out (.inr (.inl HCC.out))))]
          exact ⟨rfl, below_drewN' (HB.out.trans (HBL2.out.mono HB.out.size)) _⟩
        have hd1 : decide (d.size ≤ b.pos) = false := by simpa using hp1
        by_cases hp2 : b.text.size = 256
        case neg =>
          have hts : ((b.text.size : Int) != 256) = true := by simp; omega
          have HCC := Lib.hid hp2; clear hp2
          go_wp2_with fail
          go_quiet (fail)
          go_wp2_with fail
          go_ret
          rw [mayL_bad _ hlt (volOk_blk HD.out n hlt2 (blkOk_bad HBB.out (.inr (.inr HCC.out))))]
          exact ⟨rfl, below_drewN' (HB.out.trans (HBL2.out.mono HB.out.size)) _⟩
        have hts : ((b.text.size : Int) != 256) = false := by rw [hp2]; rfl
        have HC2 := Lib.hid (show 0 ≤ b.pos ∧ b.pos < d.size ∧ b.text.size = 256 from ⟨by omega, by omega, hp2⟩); clear hp2
        rcases nat_cases n with hn0 | ⟨z, hn1⟩
        · have hg3 : decide (0 < n) = false := by simp; omega
          have HO2 := Lib.hid (show ∀ i q, n = i + 1 → d.blocks[i]? = some q → q.pos < b.pos from fun i q h => absurd h (by omega)); clear hn0
          go_wp2_with fail
          go_quiet (fail)
          go_wp2_with fail
          go_roundw
          case rel =>
            refine ⟨n + 1, by omega, by go_num, fun j hj => ?_, below_drewN' HBL2.out _, by simpa using q4, by simpa using q3⟩
            by_cases e : j = n
            · subst e; exact blkOk_good HBB.out HC2.out.1 HC2.out.2.1 HC2.out.2.2 HO2.out
            · exact HBY.out j (by omega)
          case measure => simp [intOf]; omega
        · have hg3 : decide (0 < n) = true := by simp; omega
          obtain ⟨q, hq⟩ : ∃ q, d.blocks[z]? = some q := ⟨_, List.getElem?_eq_getElem (by omega)⟩
          obtain ⟨g', o', hp', k0, _⟩ := HBL.out.stays HBL2.out z q hq
          cases hp'
          have e5 : IntKind.i64.wrap ((n : Int) - 1) = (z : Int) := by rw [IntKind.wrap_i64]; omega
          have e6 : (z : Int) < (d.blocks.length : Int) := by omega
          have HQ := Lib.hid hq; clear hq
          have HN := Lib.hid hn1
          have HDN := Lib.hid (show d.blocks[z + 1]? = some b by rw [← hn1]; exact HBB.out)
          clear hn1
          by_cases ho : q.pos < b.pos
          · have hbo : decide (b.pos ≤ q.pos) = false := by simp; omega
            have HO2 := Lib.hid (show ∀ i' q', n = i' + 1 → d.blocks[i']? = some q' → q'.pos < b.pos from fun i' q' h h2 => by
              obtain rfl : z = i' := by have := HN.out; omega
              rw [HQ.out] at h2; cases h2; exact ho)
            clear ho
            go_wp2_with fail
            go_quiet (fail)
            go_wp2_with fail
            go_roundw
            case rel =>
              refine ⟨n + 1, by omega, by go_num, fun j hj => ?_, below_drewN' HBL2.out _, by simpa using q4, by simpa using q3⟩
              by_cases e : j = n
              · subst e; exact blkOk_good HBB.out HC2.out.1 HC2.out.2.1 HC2.out.2.2 HO2.out
              · exact HBY.out j (by omega)
            case measure => simp [intOf]; omega
          · have hbo : b.pos ≤ q.pos := by omega
            have HBO := Lib.hid hbo
            clear ho
            go_wp2_with fail
            go_quiet (fail)
            go_wp2_with fail
            go_ret
            rw [mayL_bad _ hlt (volOk_blk HD.out (z + 1) (by have := HN.out; omega) (blkOk_order HDN.out HQ.out HBO.out))]
            exact ⟨rfl, below_drewN' (HB.out.trans (HBL2.out.mono HB.out.size)) _⟩
end Go.Proofs.YtgabifkechofnaaDoor
namespace Go.Proofs.YtgabifkechofnaaDoor
open Go.RowKit

theorem bne_no {a b : Int} (h : a = b) : (a != b) = false := by subst h; simp
theorem bne_yes {a b : Int} (h : a ≠ b) : (a != b) = true := by simpa using h
/-- the first k volumes are alike -/
def AlikeTo (a b : List VolD) (k : Nat) : Prop := ∀ j, j < k → a[j]? = b[j]?
theorem AlikeTo.all {a b : List VolD} (hl : a.length = b.length) (h : AlikeTo a b a.length) : a = b := by
  apply List.ext_getElem?
  intro i
  by_cases hi : i < a.length
  · exact h i hi
  · rw [List.getElem?_eq_none (by omega), List.getElem?_eq_none (by omega)]
theorem alike_no {a b : List VolD} {k : Nat} {d e : VolD} (hd : a[k]? = some d) (he : b[k]? = some e) (h : d ≠ e) : a ≠ b := by
  intro hab; subst hab; rw [hd] at he; exact h (Option.some.inj he)

theorem toListInj {t u : ByteArray} (h : t.toList = u.toList) : t = u := by
  rw [ByteArray.toList_eq, ByteArray.toList_eq] at h
  exact Go.WideShapes.bytes_inj h
theorem run_neq_blk (w : World) (p q : Int) (t u : ByteArray) (r : Bool) (hr : decide (p = q ∧ t = u) = r) : (binOp .neq 56 (.agg #[.int .i64 p, .string t]) (.agg #[.int .i64 q, .string u])).run Tryd.prog w = .ok (.bool (!r)) w := by
  subst hr
  go_simp
  by_cases h1 : p = q
  · by_cases h2 : t = u
    · subst h1; subst h2; simp
    · rw [if_pos h1, if_neg (fun h => h2 (toListInj h))]; simp [h2]
  · rw [if_neg h1]; simp [h1]

set_option maxRecDepth 100000 in
set_option maxHeartbeats 16000000 in
theorem rsame_any (ma mb : List VolD) (va vb : Value) (w : World) (hma : ModelAt w va ma) (hmb : ModelAt w vb mb) :
    Calls Tryd.prog 14 #[va, vb] w fun e w' => e = .returned (.bool (decide (ma = mb))) ∧ Below w.heap.size w w' := by
  obtain ⟨pa, ca, rfl, ha1, ha2, hela⟩ := hma
  obtain ⟨pb, cb, rfl, hb1, hb2, helb⟩ := hmb
  have HA := Lib.hid hela; have HB := Lib.hid helb
  have hla : ma.length ≤ 9223372036854775807 := by unfold maxLen at ha2; omega
  have hlb : mb.length ≤ 9223372036854775807 := by unfold maxLen at hb2; omega
  clear hela helb ha1 ha2 hb1 hb2
  by_cases hl : ma.length = mb.length
  case neg =>
    have hne : ((ma.length : Int) != (mb.length : Int)) = true := bne_yes (by omega)
    have HF := Lib.hid (show decide (ma = mb) = false from decide_eq_false fun h => hl (by rw [h])); clear hl
    go_enter Tryd.func14, Tryd.ntmps14
    go_wp2_with fail
    go_ret
    exact ⟨ret_bool HF.out.symm, Below.refl _ _⟩
  have hne : ((ma.length : Int) != (mb.length : Int)) = false := bne_no (by omega)
  have HL := Lib.hid hl; clear hl
  go_enter Tryd.func14, Tryd.ntmps14
  go_wp2_with fail
  clear hne
  go_loopw [5] (fun i wr => ∃ k : Nat, k ≤ ma.length ∧ i = .int .i64 k ∧ AlikeTo ma mb k ∧ Below w.heap.size w wr) (fun i _ => ma.length - (intOf i).toNat)
  case atStart => exact ⟨0, Nat.zero_le _, rfl, fun j hj => by omega, Below.refl _ _⟩
  case round =>
    obtain ⟨k, hk, rfl, hal, hbw⟩ := hrel
    obtain ⟨wo, rfl⟩ : ∃ wo : World, wo = wr := ⟨_, rfl⟩
    have HAL := Lib.hid hal; have HBW := Lib.hid hbw; clear hal hbw
    by_cases hlt : k < ma.length
    case neg =>
      obtain rfl : k = ma.length := by omega
      have HT := Lib.hid (show decide (ma = mb) = true from decide_eq_true (HAL.out.all HL.out))
      go_wp2_with fail
      go_ret
      exact ⟨ret_bool HT.out.symm, HBW.out⟩
    have hki : (k : Int) < (ma.length : Int) := by omega
    have hkj : (k : Int) < (mb.length : Int) := by have := HL.out; omega
    obtain ⟨d, hd⟩ : ∃ d, ma[k]? = some d := ⟨_, List.getElem?_eq_getElem hlt⟩
    obtain ⟨e, he⟩ : ∃ e, mb[k]? = some e := ⟨_, List.getElem?_eq_getElem (by have := HL.out; omega)⟩
    obtain ⟨g, o, bp, bc, rfl, x0, x1, x2, xb1, xb2, xbl⟩ := HA.out.stays HBW.out k d hd
    obtain ⟨g', o', bp', bc', rfl, y0, y1, y2, yb1, yb2, ybl⟩ := HB.out.stays HBW.out k e he
    have hdl : d.blocks.length ≤ 9223372036854775807 := by unfold maxLen at xb2; omega
    have hel : e.blocks.length ≤ 9223372036854775807 := by unfold maxLen at yb2; omega
    have HD := Lib.hid hd; have HE := Lib.hid he; have HXB := Lib.hid xbl; have HYB := Lib.hid ybl
    clear hd he xb1 xb2 xbl yb1 yb2 ybl
    have bad : d ≠ e → decide (ma = mb) = false := fun h => decide_eq_false (alike_no HD.out HE.out h)
    have HBAD := Lib.hid bad; clear bad
    by_cases hi : d.id = e.id
    case neg =>
      have hb := bne_yes hi
      have HF := Lib.hid (HBAD.out fun h => hi (by rw [h])); clear hi
      go_wp2_with fail
      go_quiet (fail)
      go_wp2_with fail
      go_ret
      exact ⟨ret_bool HF.out.symm, below_drewN' HBW.out _⟩
    have hb := bne_no hi
    by_cases hs : d.size = e.size
    case neg =>
      have hb2 := bne_yes hs
      have HF := Lib.hid (HBAD.out fun h => hs (by rw [h])); clear hi hs
      go_wp2_with fail
      go_quiet (fail)
      go_wp2_with fail
      go_ret
      exact ⟨ret_bool HF.out.symm, below_drewN' HBW.out _⟩
    have hb2 := bne_no hs
    by_cases hn : d.blocks.length = e.blocks.length
    case neg =>
      have hb3 : ((d.blocks.length : Int) != (e.blocks.length : Int)) = true := bne_yes (by omega)
      have HF := Lib.hid (HBAD.out fun h => hn (by rw [h])); clear hi hs hn
      go_wp2_with fail
      go_quiet (fail)
      go_wp2_with fail
      go_ret
      exact ⟨ret_bool HF.out.symm, below_drewN' HBW.out _⟩
    have hb3 : ((d.blocks.length : Int) != (e.blocks.length : Int)) = false := bne_no (by omega)
    have HEQ := Lib.hid (And.intro hi (And.intro hs hn)); clear hi hs hn
    go_wp2_with fail
    go_quiet (fail)
    go_wp2_with fail
    clear hb hb2 hb3
    go_loopw [6] (fun i wr => ∃ n : Nat, n ≤ d.blocks.length ∧ i = .int .i64 n ∧ (∀ j, j < n → d.blocks[j]? = e.blocks[j]?) ∧ Below wo.heap.size wo wr) (fun i _ => d.blocks.length - (intOf i).toNat)
    case atStart => exact ⟨0, Nat.zero_le _, rfl, fun j hj => by omega, below_drewN' (Below.refl _ _) _⟩
    case round =>
      obtain ⟨n, hn, rfl, hby, hbi⟩ := hrel
      have HBY := Lib.hid hby; have HBI := Lib.hid hbi; clear hby hbi
      have z0 := cell_stays HBI.out x0
      have z1 := cell_stays HBI.out x1
      have z2 := cell_stays HBI.out x2
      have t2 := cell_stays HBI.out y2
      by_cases hlt2 : n < d.blocks.length
      case neg =>
        obtain rfl : n = d.blocks.length := by omega
        have HDE := Lib.hid (show d = e by
          obtain ⟨q1, q2, q3⟩ := HEQ.out
          have hbl : d.blocks = e.blocks := by
            apply List.ext_getElem?
            intro i
            by_cases hi : i < d.blocks.length
            · exact HBY.out i hi
            · rw [List.getElem?_eq_none (by omega), List.getElem?_eq_none (by omega)]
          cases d; cases e; simp_all)
        go_wp2_with fail
        go_roundw
        case rel =>
          refine ⟨k + 1, by omega, by go_num, fun j hj => ?_, HBW.out.trans (HBI.out.mono HBW.out.size)⟩
          by_cases ejk : j = k
          · subst ejk; rw [HD.out, HE.out, HDE.out]
          · exact HAL.out j (by omega)
        case measure => simp [intOf]; omega
      have hni : (n : Int) < (d.blocks.length : Int) := by omega
      have hnj : (n : Int) < (e.blocks.length : Int) := by have := HEQ.out.2.2; omega
      obtain ⟨b, hb⟩ : ∃ b, d.blocks[n]? = some b := ⟨_, List.getElem?_eq_getElem hlt2⟩
      obtain ⟨c, hc⟩ : ∃ c, e.blocks[n]? = some c := ⟨_, List.getElem?_eq_getElem (by omega)⟩
      obtain ⟨bg, bo, rfl, k0, k1⟩ := HXB.out.stays HBI.out n b hb
      obtain ⟨cg, co, rfl, l0, l1⟩ := HYB.out.stays HBI.out n c hc
      have HBB := Lib.hid hb; have HCC := Lib.hid hc; clear hb hc
      by_cases heq : b = c
      · have hr : ∀ w, (binOp .neq 56 (.agg #[.int .i64 b.pos, .string b.text]) (.agg #[.int .i64 c.pos, .string c.text])).run Tryd.prog w = .ok (.bool false) w := fun w => run_neq_blk w _ _ _ _ true (by subst heq; simp)
        have HEQ2 := Lib.hid heq; clear heq
        go_wp2_with fail
        go_quiet (fail)
        go_wp2_with fail
        go_roundw
        case rel =>
          refine ⟨n + 1, by omega, by go_num, fun j hj => ?_, below_drewN' HBI.out _⟩
          by_cases e : j = n
          · subst e; rw [HBB.out, HCC.out, HEQ2.out]
          · exact HBY.out j (by omega)
        case measure => simp [intOf]; omega
      · have hr : ∀ w, (binOp .neq 56 (.agg #[.int .i64 b.pos, .string b.text]) (.agg #[.int .i64 c.pos, .string c.text])).run Tryd.prog w = .ok (.bool true) w := fun w => run_neq_blk w _ _ _ _ false (by
          rw [decide_eq_false_iff_not]; intro h; apply heq; cases b; cases c; simp_all)
        have HF := Lib.hid (HBAD.out fun h => heq (by rw [h] at HBB; have h1 := HBB.out; rw [HCC.out] at h1; exact (Option.some.inj h1).symm)); clear heq
        go_wp2_with fail
        go_quiet (fail)
        go_wp2_with fail
        go_ret
        exact ⟨ret_bool HF.out.symm, below_drewN' (HBW.out.trans (HBI.out.mono HBW.out.size)) _⟩
end Go.Proofs.YtgabifkechofnaaDoor
namespace Go.Proofs.YtgabifkechofnaaDoor
open Go.RowKit

/-- a row of volumes that the call owns; of each one's blocks 'Q' is known -/
def VRow (B : Nat) (Q : VolD → Value → Prop) (v : Value) (out : List VolD) (wr : World) : Prop :=
  ∃ bvs, bvs.length = out.length ∧ wr.ownsRow B 41 3 v out.length (volRows out bvs).flatten ∧ ∀ (i : Nat) (d : VolD) (bv : Value), out[i]? = some d → bvs[i]? = some bv → Q d bv
theorem VRow.reads {B : Nat} {Q : VolD → Value → Prop} {wr : World} {v : Value} {out : List VolD} (h : VRow B Q v out wr) (hQ : ∀ d bv, Q d bv → BvOk wr d bv) : ModelAt wr v out := by
  obtain ⟨bvs, h1, h2, h3⟩ := h
  exact model_of_rows h1 h2 fun i d bv hd he => hQ d bv (h3 i d bv hd he)
theorem VRow.nil {B : Nat} (Q : VolD → Value → Prop) (wr : World) (hB : B ≤ wr.heap.size) : VRow B Q (.slice (some ⟨wr.heap.size, 0, none⟩) 0 0) [] (wr.alloc (.cells #[] 41)) :=
  ⟨[], rfl, World.ownsRow_made wr #[] 0 hB (by unfold maxLen; omega) rfl, fun i d bv hd => by simp at hd⟩
theorem VRow.below {B : Nat} {Q : VolD → Value → Prop} {wr w' : World} {v : Value} {out : List VolD} (h : VRow B Q v out wr) (hb : Below wr.heap.size wr w') : VRow B Q v out w' := by
  obtain ⟨bvs, h1, h2, h3⟩ := h
  exact ⟨bvs, h1, own_belowW h2 hb, h3⟩
theorem VRow.mono {B B' : Nat} {Q : VolD → Value → Prop} {wr : World} {v : Value} {out : List VolD} (hB : B' ≤ B) (h : VRow B Q v out wr) : VRow B' Q v out wr := by
  obtain ⟨bvs, h1, h2, h3⟩ := h
  exact ⟨bvs, h1, ow_mono hB h2, h3⟩
theorem VRow.setBelow {B : Nat} {Q : VolD → Value → Prop} {wr : World} {v : Value} {out : List VolD} (h : VRow B Q v out wr) {a : Addr} (ha : a.block < B) (u : Value) : VRow B Q v out (wr.setCell a u) := by
  obtain ⟨bvs, h1, h2, h3⟩ := h
  exact ⟨bvs, h1, ownsRow_setCell_below h2 ha u, h3⟩
theorem VRow.push {B : Nat} {Q : VolD → Value → Prop} {w1 : World} {v1 : Value} {out : List VolD} {bvs : List Value} {d : VolD} {bv : Value} (h1 : bvs.length = out.length) (h3 : ∀ (i : Nat) (d : VolD) (bv : Value), out[i]? = some d → bvs[i]? = some bv → Q d bv)
    (ho : w1.ownsRow B 41 3 v1 (out.length + 1) ((volRows out bvs).flatten ++ [.int .i64 d.id, .int .i64 d.size, bv])) (hb : Q d bv) : VRow B Q v1 (out ++ [d]) w1 := by
  refine ⟨bvs ++ [bv], by simp [h1], ?_, fun i d' b' hd he => ?_⟩
  · have e : (volRows (out ++ [d]) (bvs ++ [bv])).flatten = (volRows out bvs).flatten ++ [.int .i64 d.id, .int .i64 d.size, bv] := by
      unfold volRows
      rw [List.zipWith_append h1.symm, List.flatten_append]; rfl
    rw [e, List.length_append]; exact ho
  · by_cases hi : i < out.length
    · rw [List.getElem?_append_left hi] at hd
      rw [List.getElem?_append_left (by omega)] at he
      exact h3 i d' b' hd he
    · rw [List.getElem?_append_right (by omega)] at hd
      rw [List.getElem?_append_right (by omega), h1] at he
      cases hj : i - out.length with
      | zero =>
        rw [hj] at hd he
        simp only [List.getElem?_cons_zero, Option.some.injEq] at hd he
        subst hd; subst he; exact hb
      | succ j => rw [hj] at hd; simp at hd
/-- of each volume's blocks, as they lie, 'Q' is known -/
def VolsQ (Q : VolD → Value → Prop) (w : World) (v : Value) (m : List VolD) : Prop :=
  ∃ p c, v = .slice p m.length c ∧ c ≤ maxLen ∧ ∀ i d, m[i]? = some d → ∃ g o bp bc, p = some ⟨g, o, none⟩ ∧ w.cell? ⟨g, o + i * 3, none⟩ = some (.int .i64 d.id) ∧ w.cell? ⟨g, o + i * 3 + 1, none⟩ = some (.int .i64 d.size) ∧ w.cell? ⟨g, o + i * 3 + 2, none⟩ = some (.slice bp d.blocks.length bc) ∧ Q d (.slice bp d.blocks.length bc)
theorem ModelAt.q {w : World} {v : Value} {m : List VolD} (h : ModelAt w v m) {Q : VolD → Value → Prop} (hQ : ∀ d bv, BvOk w d bv → Q d bv) : VolsQ Q w v m := by
  obtain ⟨p, c, h1, _, h3, h4⟩ := h
  refine ⟨p, c, h1, h3, fun i d hd => ?_⟩
  obtain ⟨g, o, bp, bc, e0, e1, e2, e3, e4, e5, e6⟩ := h4 i d hd
  exact ⟨g, o, bp, bc, e0, e1, e2, e3, hQ _ _ ⟨bp, bc, rfl, e4, e5, e6⟩⟩
theorem new_three {W : World} {x y z : Value} : ∀ j u, [x, y, z][j]? = some u → (W.alloc (.cells #[x, y, z] 41)).cell? ((⟨W.heap.size, 0, none⟩ : Addr).add j) = some u := by
  intro j u hu
  rw [ow_at, World.cell?_alloc_at _ _ _ _ rfl]
  rcases j with _ | _ | _ | j
  · exact hu
  · exact hu
  · exact hu
  · simp at hu
theorem BvOk.slice {w : World} {d : VolD} {bp : Option Addr} {c : Nat} (h1 : d.blocks.length ≤ c) (h2 : c ≤ maxLen) (h3 : BlksIn w bp d.blocks) : BvOk w d (.slice bp d.blocks.length c) := ⟨bp, c, rfl, h1, h2, h3⟩

def woL (m : List VolD) (id : Int) : List VolD := m.filter fun d => !(d.id == id)
def WoRel (Q : VolD → Value → Prop) (m : List VolD) (id : Int) (w : World) (v i : Value) (wr : World) : Prop :=
  ∃ (k : Nat) (vv : Value), vv = v ∧ k ≤ m.length ∧ i = .int .i64 k ∧ VRow w.heap.size Q v (woL (m.take k) id) wr ∧ Below w.heap.size w wr
theorem wo_len (m : List VolD) (id : Int) (k : Nat) : (woL (m.take k) id).length ≤ k := Nat.le_trans (List.length_filter_le _ _) (List.length_take_le _ _)
theorem wo_snoc {m : List VolD} {id : Int} {k : Nat} {d : VolD} (hd : m[k]? = some d) : woL (m.take (k + 1)) id = woL (m.take k) id ++ if d.id = id then [] else [d] := by
  obtain ⟨hk, rfl⟩ := List.getElem?_eq_some_iff.1 hd
  unfold woL
  rw [List.take_succ_eq_append_getElem hk, List.filter_append]
  by_cases h : m[k].id = id
  · rw [if_pos h, List.filter_cons_of_neg (by simpa using h)]; rfl
  · rw [if_neg h, List.filter_cons_of_pos (by simpa using h)]; rfl

set_option maxRecDepth 100000 in
set_option maxHeartbeats 2000000 in
theorem rwithout_any (Q : VolD → Value → Prop) (m : List VolD) (id : Int) (v : Value) (w : World) (hm : VolsQ Q w v m) (hl : m.length ≤ 1000) :
    Calls Tryd.prog 31 #[v, .int .i64 id] w fun e w' => ∃ v', e = .returned v' ∧ VRow w.heap.size Q v' (woL m id) w' ∧ Below w.heap.size w w' := by
  obtain ⟨p, c, rfl, _, hel⟩ := hm
  have HEL := Lib.hid hel; clear hel
  have hlen : (m.length : Int) ≤ 1000 := by omega
  obtain ⟨i0, hi, hz0, hz1, hz2⟩ := info_parts infoV
  have HL := Lib.hid hl; clear hl
  go_enter Tryd.func31, Tryd.ntmps31
  go_wp2_with fail
  go_loopw [5, 6] (fun v i wr => WoRel Q m id w v i wr) (fun _ i _ => m.length - (intOf i).toNat)
  case atStart => exact ⟨0, _, rfl, Nat.zero_le _, rfl, VRow.nil Q w (Nat.le_refl _), (Below.refl _ _).alloc (Nat.le_refl _) _⟩
  case round =>
    obtain ⟨k, vv, hvv, hk, rfl, hrow, hb⟩ := hrel
    subst hvv
    have HR := Lib.hid hrow; have HB := Lib.hid hb
    clear hrow hb
    by_cases hlt : k < m.length
    case neg =>
      obtain rfl : k = m.length := by omega
      go_wp2_with fail
      go_ret
      refine ⟨_, rfl, ?_, HB.out⟩
      have := HR.out
      rw [List.take_length] at this; exact this
    have hki : (k : Int) < (m.length : Int) := by omega
    obtain ⟨d, hd⟩ : ∃ d, m[k]? = some d := ⟨_, List.getElem?_eq_getElem hlt⟩
    obtain ⟨g, o, bp, bc, e0, g0, g1, g2, gq⟩ := HEL.out k d hd
    have HBV := Lib.hid gq
    subst e0
    have h0 := cell_stays (Below.mono HB.out (Nat.le_refl _)) g0
    have h1 := cell_stays (Below.mono HB.out (Nat.le_refl _)) g1
    have h2 := cell_stays (Below.mono HB.out (Nat.le_refl _)) g2
    have HD := Lib.hid hd; clear hd gq g0 g1 g2
    by_cases he : d.id = id
    · have hbe : (d.id != id) = false := by simpa using he
      have HS := Lib.hid (show woL (m.take (k + 1)) id = woL (m.take k) id by rw [wo_snoc HD.out, if_pos he, List.append_nil]); clear he
      go_wp2_with fail
      go_roundw
      case rel => exact ⟨k + 1, _, rfl, by omega, by go_num, by rw [HS.out]; exact HR.out, HB.out⟩
      case measure => simp [intOf]; omega
    · have hbe : (d.id != id) = true := by simpa using he
      have HS := Lib.hid (show woL (m.take (k + 1)) id = woL (m.take k) id ++ [d] by rw [wo_snoc HD.out, if_neg he]); clear he
      obtain ⟨bvs, hr1, hr2, hr3⟩ := HR.out
      have HR1 := Lib.hid hr1; have HR2 := Lib.hid hr2; have HR3 := Lib.hid hr3
      have hwl := wo_len m id k
      clear hr1 hr2 hr3
      go_wp2_with (at_builtin; refine wpList_append_own _ rfl _ _ 22 rfl w.heap.size 41 i0 (.agg #[.int .i64 0, .int .i64 0, .slice none 0 0]) 3 40 Tryd.underlying22 hi hz0 hz1 hz2 rfl (by decide) _ _ _ rfl (HR2.out.alloc _) ⟨wr.heap.size, 0, none⟩ 1 1 [.int .i64 d.id, .int .i64 d.size, .slice bp d.blocks.length bc] rfl rfl new_three (by simp [Value.oneCell']) (by unfold maxLen; omega) (by omega) (by have := HB.out.size; simp; omega) ?_; intro v1 w1 hown1 hgrow1 _)
      have HN := Lib.hid (VRow.push HR1.out HR3.out hown1 HBV.out)
      have HB1 := Lib.hid (ow_grown HB.out HB.out.size HR2.out hgrow1)
      clear hown1 hgrow1
      go_wp2_with fail
      go_roundw
      case rel => exact ⟨k + 1, _, rfl, by omega, by go_num, by rw [HS.out]; exact HN.out, HB1.out⟩
      case measure => simp [intOf]; omega

/-- what With has laid behind k rounds -/
def WiRel (m : List VolD) (x : VolD) (out : List VolD) (laid : Bool) (k : Nat) : Prop :=
  (laid = false ∧ (∀ d ∈ m.take k, d.id < x.id) ∧ out = m.take k) ∨ (laid = true ∧ (∃ j d, j < k ∧ m[j]? = some d ∧ x.id ≤ d.id) ∧ out = putG VolD.id (m.take k) x)
theorem put_low {l : List VolD} {x : VolD} (h : ∀ d ∈ l, d.id < x.id) : putG VolD.id l x = l ++ [x] := by
  unfold putG
  rw [List.filter_eq_self.2 (fun d hd => by simpa using h d hd), List.filter_eq_nil_iff.2 (fun d hd => by have := h d hd; simp; omega)]
theorem put_snoc {l : List VolD} {x d : VolD} : putG VolD.id (l ++ [d]) x = if d.id < x.id then putG VolD.id (l ++ [d]) x else putG VolD.id l x ++ if x.id < d.id then [d] else [] := by
  split
  · rfl
  · rename_i h
    unfold putG
    rw [List.filter_append, List.filter_append, List.filter_cons_of_neg (a := d) (by simpa using h), List.filter_nil, List.append_nil]
    split
    · rename_i h2; rw [List.filter_cons_of_pos (by simpa using h2)]; simp
    · rename_i h2; rw [List.filter_cons_of_neg (by simpa using h2)]; simp
theorem wi_len {m : List VolD} {x : VolD} {out : List VolD} {laid : Bool} {k : Nat} (h : WiRel m x out laid k) : out.length ≤ k + 1 := by
  rcases h with ⟨_, _, rfl⟩ | ⟨_, _, rfl⟩
  · rw [List.length_take]; omega
  · have := put_len_le VolD.id (m.take k) x; rw [List.length_take] at this; omega
theorem wi_end {m : List VolD} {x : VolD} {out : List VolD} {laid : Bool} (h : WiRel m x out laid m.length) : (if laid then out else out ++ [x]) = putG VolD.id m x := by
  rcases h with ⟨rfl, h, rfl⟩ | ⟨rfl, _, rfl⟩
  · rw [if_neg (by simp), List.take_length] at *; exact (put_low h).symm
  · rw [if_pos rfl, List.take_length]
theorem wi_a {m : List VolD} {x d : VolD} {out : List VolD} {k : Nat} (h : WiRel m x out false k) (hd : m[k]? = some d) (hlt : d.id < x.id) : WiRel m x (out ++ [d]) false (k + 1) := by
  obtain ⟨hk, e⟩ := List.getElem?_eq_some_iff.1 hd
  rcases h with ⟨_, h, rfl⟩ | ⟨h, _⟩
  · refine .inl ⟨rfl, ?_, by rw [List.take_succ_eq_append_getElem hk, e]⟩
    rw [List.take_succ_eq_append_getElem hk, e]
    intro y hy
    rcases List.mem_append.1 hy with hy | hy
    · exact h y hy
    · simp at hy; subst hy; exact hlt
  · cases h
theorem wi_b {m : List VolD} {x d : VolD} {out : List VolD} {k : Nat} (h : WiRel m x out false k) (hd : m[k]? = some d) (hge : x.id ≤ d.id) : WiRel m x (out ++ [x] ++ if x.id < d.id then [d] else []) true (k + 1) := by
  obtain ⟨hk, e⟩ := List.getElem?_eq_some_iff.1 hd
  rcases h with ⟨_, h, rfl⟩ | ⟨h, _⟩
  · refine .inr ⟨rfl, ⟨k, d, by omega, hd, hge⟩, ?_⟩
    rw [List.take_succ_eq_append_getElem hk, e, put_snoc, if_neg (show ¬ d.id < x.id by omega), put_low h]
  · cases h
theorem wi_c {m : List VolD} (hm : Rising VolD.id m) {x d : VolD} {out : List VolD} {k : Nat} (h : WiRel m x out true k) (hd : m[k]? = some d) : x.id < d.id ∧ WiRel m x (out ++ [d]) true (k + 1) := by
  obtain ⟨hk, e⟩ := List.getElem?_eq_some_iff.1 hd
  rcases h with ⟨h, _⟩ | ⟨_, ⟨j, y, hj, hy, hle⟩, rfl⟩
  · cases h
  · obtain ⟨hj2, e2⟩ := List.getElem?_eq_some_iff.1 hy
    have hlt : x.id < d.id := by have := List.pairwise_iff_getElem.1 hm j k hj2 hk hj; rw [e, e2] at this; omega
    refine ⟨hlt, .inr ⟨rfl, ⟨j, y, by omega, hy, hle⟩, ?_⟩⟩
    rw [List.take_succ_eq_append_getElem hk, e, put_snoc, if_neg (by omega), if_pos hlt]
/-- three cells of a box -/
def Box3 (b : Nat) (x y z : Value) (w : World) : Prop := w.cell? ⟨b, 0, none⟩ = some x ∧ w.cell? ⟨b, 1, none⟩ = some y ∧ w.cell? ⟨b, 2, none⟩ = some z
theorem Box3.below {b : Nat} {x y z : Value} {W W' : World} (h : Box3 b x y z W) (hb : Below W.heap.size W W') : Box3 b x y z W' := ⟨cell_stays hb h.1, cell_stays hb h.2.1, cell_stays hb h.2.2⟩
theorem Box3.grown {b : Nat} {x y z : Value} {W W' : World} {row : Option Nat} (h : Box3 b x y z W) (hg : W.grownBy W' row) (hne : some b ≠ row) : Box3 b x y z W' := ⟨hg.cell h.1 hne, hg.cell h.2.1 hne, hg.cell h.2.2 hne⟩
theorem step_box {w W w1 : World} {o : Obj} {vv : Value} {e : TypeId} {k n : Nat} {xs : List Value} {x y z : Value} (hb : Below w.heap.size w W) (ho : W.ownsRow (w.heap.size + 1) e k vv n xs) (hx : Box3 w.heap.size x y z W) (hg : (W.alloc o).grownBy w1 vv.ownBlock) :
    Below w.heap.size w w1 ∧ Box3 w.heap.size x y z w1 := by
  have hal := (Below.refl W.heap.size W).alloc (Nat.le_refl _) o
  exact ⟨(hb.trans (hal.mono hb.size)).grown hg (by have := hb.size; simp; omega) (fun k e => by have := (ho.lt k e).1; omega), (hx.below hal).grown hg (fun e => by have := (ho.lt _ e.symm).1; omega)⟩
def WithRel (Q : VolD → Value → Prop) (m : List VolD) (x : VolD) (xv : Value) (w : World) (v l i : Value) (wr : World) : Prop :=
  ∃ (k : Nat) (vv : Value) (out : List VolD) (laid : Bool), vv = v ∧ k ≤ m.length ∧ i = .int .i64 k ∧ l = .bool laid ∧ WiRel m x out laid k ∧ VRow (w.heap.size + 1) Q v out wr ∧ Below w.heap.size w wr ∧ Box3 w.heap.size (.int .i64 x.id) (.int .i64 x.size) xv wr

set_option maxRecDepth 100000 in
set_option maxHeartbeats 8000000 in
theorem rwith_any (Q : VolD → Value → Prop) (m : List VolD) (x : VolD) (xp : Option Addr) (xc : Nat) (v : Value) (w : World) (hm : VolsQ Q w v m) (hl : m.length ≤ 1000) (hr : Rising VolD.id m) (hx : Q x (.slice xp x.blocks.length xc)) :
    Calls Tryd.prog 30 #[v, .agg #[.int .i64 x.id, .int .i64 x.size, .slice xp x.blocks.length xc]] w fun e w' => ∃ v', e = .returned v' ∧ VRow (w.heap.size + 1) Q v' (putG VolD.id m x) w' ∧ Below w.heap.size w w' := by
  obtain ⟨p, c, rfl, _, hel⟩ := hm
  have HEL := Lib.hid hel; clear hel
  have hlen : (m.length : Int) ≤ 1000 := by omega
  obtain ⟨i0, hi, hz0, hz1, hz2⟩ := info_parts infoV
  have HL := Lib.hid hl; have HRI := Lib.hid hr; have HXV := Lib.hid hx; clear hl hr hx
  obtain ⟨xid, xsz, xbl⟩ := x
  simp only at HXV ⊢
  go_enter Tryd.func30, Tryd.ntmps30
  go_wp2_with fail
  go_loopw [5, 6, 7] (fun v l i wr => WithRel Q m ⟨xid, xsz, xbl⟩ (.slice xp xbl.length xc) w v l i wr) (fun _ _ i _ => m.length - (intOf i).toNat)
  case atStart =>
    have hb2 : Below w.heap.size w ((w.alloc (.cells #[.int .i64 xid, .int .i64 xsz, .slice xp xbl.length xc] 41)).alloc (.cells #[] 41)) := ((Below.refl w.heap.size w).alloc (Nat.le_refl _) _).alloc (by simp) _
    have hn2 := VRow.nil (B := w.heap.size + 1) Q (w.alloc (.cells #[.int .i64 xid, .int .i64 xsz, .slice xp xbl.length xc] 41)) (by simp)
    simp only [World.size_alloc] at hn2
    refine ⟨0, _, [], false, rfl, Nat.zero_le _, rfl, rfl, .inl ⟨rfl, by simp, by simp⟩, hn2, hb2, by simp, by simp, by simp⟩
  case round =>
    obtain ⟨k, vv, out, laid, hvv, hk, rfl, rfl, hwi, hrow, hb, hbox⟩ := hrel
    subst hvv
    have HW := Lib.hid hwi; have HR := Lib.hid hrow; have HB := Lib.hid hb; have HX := Lib.hid hbox
    have hol := wi_len hwi
    obtain ⟨q0, q1, q2⟩ := hbox
    clear hwi hrow hb
    by_cases hlt : k < m.length
    case neg =>
      obtain rfl : k = m.length := by omega
      cases laid with
      | true =>
        have HE := Lib.hid (show out = putG VolD.id m ⟨xid, xsz, xbl⟩ from wi_end HW.out)
        go_wp2_with fail
        go_ret
        exact ⟨_, rfl, by rw [← HE.out]; exact HR.out, HB.out⟩
      | false =>
        have HE := Lib.hid (show out ++ [⟨xid, xsz, xbl⟩] = putG VolD.id m ⟨xid, xsz, xbl⟩ from wi_end HW.out)
        obtain ⟨bvs, hr1, hr2, hr3⟩ := HR.out
        have HR1 := Lib.hid hr1; have HR2 := Lib.hid hr2; have HR3 := Lib.hid hr3
        clear hr1 hr2 hr3
        go_wp2_with (at_builtin; refine wpList_append_own _ rfl _ _ 22 rfl (w.heap.size + 1) 41 i0 (.agg #[.int .i64 0, .int .i64 0, .slice none 0 0]) 3 40 Tryd.underlying22 hi hz0 hz1 hz2 rfl (by decide) _ _ _ rfl (HR2.out.alloc _) ⟨wr.heap.size, 0, none⟩ 1 1 [.int .i64 xid, .int .i64 xsz, .slice xp xbl.length xc] rfl rfl new_three (by simp [Value.oneCell']) (by unfold maxLen; omega) (by omega) (by have := HB.out.size; have := World.block_lt_of_cell? _ _ HX.out.1; simp; omega) ?_; intro v1 w1 hown1 hgrow1 _)
        have HN := Lib.hid (VRow.push (d := ⟨xid, xsz, xbl⟩) HR1.out HR3.out hown1 HXV.out)
        have HB1 := Lib.hid (step_box HB.out HR2.out HX.out hgrow1)
        clear hown1 hgrow1
        go_wp2_with fail
        go_ret
        exact ⟨_, rfl, by rw [← HE.out]; exact HN.out, HB1.out.1⟩
    have hki : (k : Int) < (m.length : Int) := by omega
    obtain ⟨d, hd⟩ : ∃ d, m[k]? = some d := ⟨_, List.getElem?_eq_getElem hlt⟩
    obtain ⟨g, o, bp, bc, e0, g0, g1, g2, gq⟩ := HEL.out k d hd
    have HBV := Lib.hid gq
    subst e0
    have h0 := cell_stays HB.out g0
    have h1 := cell_stays HB.out g1
    have h2 := cell_stays HB.out g2
    have HG := Lib.hid (And.intro g0 (And.intro g1 g2))
    have HD := Lib.hid hd; clear hd gq g0 g1 g2
    obtain ⟨bvs, hr1, hr2, hr3⟩ := HR.out
    have HR1 := Lib.hid hr1; have HR2 := Lib.hid hr2; have HR3 := Lib.hid hr3
    clear hr1 hr2 hr3
    have hdq : ∀ n, Below wr.heap.size wr (wr.drewN n) := fun n => below_drewN' (Below.refl _ _) n
    have HDQ := Lib.hid hdq; clear hdq
    cases laid with
    | true =>
      have hcc := wi_c HRI.out HW.out HD.out
      have hgt : xid < d.id := hcc.1
      have HC := Lib.hid hcc.2; clear hcc
      have hne : (d.id != xid) = true := by simp; omega
      go_wp2_with fail
      go_quiet (fail)
      go_wp2_with fail
      go_quiet (fail)
      go_wp2_with (at_builtin; refine wpList_append_own _ rfl (.tmp 39) (.tmp 44) 22 rfl (w.heap.size + 1) 41 i0 (.agg #[.int .i64 0, .int .i64 0, .slice none 0 0]) 3 40 Tryd.underlying22 hi hz0 hz1 hz2 rfl (by decide) _ _ _ rfl ((own_belowW HR2.out (HDQ.out _)).alloc _) ⟨wr.heap.size, 0, none⟩ 1 1 [.int .i64 d.id, .int .i64 d.size, .slice bp d.blocks.length bc] rfl rfl new_three (by simp [Value.oneCell']) (by unfold maxLen; omega) (by omega) (by have := (HB.out).size; have := World.block_lt_of_cell? _ _ (HX.out).1; simp at *; omega) ?_; intro v1 w1 hown1 hgrow1 _)
      have HN := Lib.hid (VRow.push (d := d) HR1.out HR3.out hown1 HBV.out)
      have HB1 := Lib.hid (step_box (HB.out.trans ((HDQ.out _).mono HB.out.size)) (own_belowW HR2.out (HDQ.out _)) (HX.out.below (HDQ.out _)) hgrow1)
      clear hown1 hgrow1
      go_wp2_with fail
      go_roundw
      case rel => exact ⟨k + 1, _, _, true, rfl, by omega, by go_num, rfl, HC.out, HN.out, HB1.out.1, HB1.out.2⟩
      case measure => simp [intOf]; omega
    | false =>
      by_cases hlow : d.id < xid
      · have hng : ¬ xid ≤ d.id := by omega
        have hne : (d.id != xid) = true := by simp; omega
        have HC := Lib.hid (wi_a HW.out HD.out hlow); clear hlow
        go_wp2_with fail
        go_quiet (fail)
        go_wp2_with fail
        go_quiet (fail)
        go_wp2_with (at_builtin; refine wpList_append_own _ rfl (.tmp 39) (.tmp 44) 22 rfl (w.heap.size + 1) 41 i0 (.agg #[.int .i64 0, .int .i64 0, .slice none 0 0]) 3 40 Tryd.underlying22 hi hz0 hz1 hz2 rfl (by decide) _ _ _ rfl ((own_belowW HR2.out (HDQ.out _)).alloc _) ⟨wr.heap.size, 0, none⟩ 1 1 [.int .i64 d.id, .int .i64 d.size, .slice bp d.blocks.length bc] rfl rfl new_three (by simp [Value.oneCell']) (by unfold maxLen; omega) (by omega) (by have := (HB.out).size; have := World.block_lt_of_cell? _ _ (HX.out).1; simp at *; omega) ?_; intro v1 w1 hown1 hgrow1 _)
        have HN := Lib.hid (VRow.push (d := d) HR1.out HR3.out hown1 HBV.out)
        have HB1 := Lib.hid (step_box (HB.out.trans ((HDQ.out _).mono HB.out.size)) (own_belowW HR2.out (HDQ.out _)) (HX.out.below (HDQ.out _)) hgrow1)
        clear hown1 hgrow1
        go_wp2_with fail
        go_roundw
        case rel => exact ⟨k + 1, _, _, false, rfl, by omega, by go_num, rfl, HC.out, HN.out, HB1.out.1, HB1.out.2⟩
        case measure => simp [intOf]; omega
      · have hge : xid ≤ d.id := by omega
        have HC := Lib.hid (wi_b HW.out HD.out hge); clear hlow
        go_wp2_with fail
        go_quiet (fail)
        go_wp2_with (at_builtin; refine wpList_append_own _ rfl (.tmp 27) (.tmp 29) 22 rfl (w.heap.size + 1) 41 i0 (.agg #[.int .i64 0, .int .i64 0, .slice none 0 0]) 3 40 Tryd.underlying22 hi hz0 hz1 hz2 rfl (by decide) _ _ _ rfl ((own_belowW HR2.out (HDQ.out _)).alloc _) ⟨wr.heap.size, 0, none⟩ 1 1 [.int .i64 xid, .int .i64 xsz, .slice xp xbl.length xc] rfl rfl new_three (by simp [Value.oneCell']) (by unfold maxLen; omega) (by omega) (by have := (HB.out).size; have := World.block_lt_of_cell? _ _ (HX.out).1; simp at *; omega) ?_; intro v1 w1 hown1 hgrow1 _)
        have HN := Lib.hid (VRow.push (d := ⟨xid, xsz, xbl⟩) HR1.out HR3.out hown1 HXV.out)
        have HB1 := Lib.hid (step_box (HB.out.trans ((HDQ.out _).mono HB.out.size)) (own_belowW HR2.out (HDQ.out _)) (HX.out.below (HDQ.out _)) hgrow1)
        clear hown1 hgrow1 q0 q1 q2 h0 h1 h2
        obtain ⟨q0, q1, q2⟩ := HB1.out.2
        have h0 := cell_stays HB1.out.1 HG.out.1
        have h1 := cell_stays HB1.out.1 HG.out.2.1
        have h2 := cell_stays HB1.out.1 HG.out.2.2
        have hol2 : (out ++ [(⟨xid, xsz, xbl⟩ : VolD)]).length ≤ k + 2 := by rw [List.length_append, List.length_singleton]; omega
        obtain ⟨bvs', hs1, hs2, hs3⟩ := HN.out
        have HS1 := Lib.hid hs1; have HS2 := Lib.hid hs2; have HS3 := Lib.hid hs3
        clear hs1 hs2 hs3
        by_cases hgt : xid < d.id
        · have hne : (d.id != xid) = true := by simp; omega
          have HC2 := Lib.hid (show WiRel m ⟨xid, xsz, xbl⟩ (out ++ [⟨xid, xsz, xbl⟩] ++ [d]) true (k + 1) by have := HC.out; rw [if_pos hgt] at this; exact this)
          clear hge hgt
          go_wp2_with fail
          go_quiet (fail)
          go_wp2_with (at_builtin; refine wpList_append_own _ rfl (.tmp 39) (.tmp 44) 22 rfl (w.heap.size + 1) 41 i0 (.agg #[.int .i64 0, .int .i64 0, .slice none 0 0]) 3 40 Tryd.underlying22 hi hz0 hz1 hz2 rfl (by decide) _ _ _ rfl ((own_belowW HS2.out (below_drewN' (Below.refl _ _) _)).alloc _) ⟨w1.heap.size, 0, none⟩ 1 1 [.int .i64 d.id, .int .i64 d.size, .slice bp d.blocks.length bc] rfl rfl new_three (by simp [Value.oneCell']) (by unfold maxLen; omega) (by omega) (by have := HB1.out.1.size; have := World.block_lt_of_cell? _ _ HB1.out.2.1; simp at *; omega) ?_; intro v2 w2 hown1 hgrow1 _)
          have HN2 := Lib.hid (VRow.push (d := d) HS1.out HS3.out hown1 HBV.out)
          have HB2 := Lib.hid (step_box (below_drewN' HB1.out.1 _) (own_belowW HS2.out (below_drewN' (Below.refl _ _) _)) (HB1.out.2.below (below_drewN' (Below.refl _ _) _)) hgrow1)
          clear hown1 hgrow1
          go_wp2_with fail
          go_roundw
          case rel => exact ⟨k + 1, _, _, true, rfl, by omega, by go_num, rfl, HC2.out, HN2.out, HB2.out.1, HB2.out.2⟩
          case measure => simp [intOf]; omega
        · have hne : (d.id != xid) = false := by simp; omega
          have HC2 := Lib.hid (show WiRel m ⟨xid, xsz, xbl⟩ (out ++ [⟨xid, xsz, xbl⟩]) true (k + 1) by have := HC.out; rw [if_neg hgt, List.append_nil] at this; exact this)
          clear hge hgt
          go_wp2_with fail
          go_quiet (fail)
          go_wp2_with fail
          go_roundw
          case rel => exact ⟨k + 1, _, _, true, rfl, by omega, by go_num, rfl, HC2.out, HN.out.below (below_drewN' (Below.refl _ _) _), below_drewN' HB1.out.1 _, HB1.out.2.below (below_drewN' (Below.refl _ _) _)⟩
          case measure => simp [intOf]; omega
end Go.Proofs.YtgabifkechofnaaDoor
namespace Go.Proofs.YtgabifkechofnaaDoor
open Go.RowKit

theorem new_two {W : World} {x y : Value} : ∀ j u, [x, y][j]? = some u → (W.alloc (.cells #[x, y] 56)).cell? ((⟨W.heap.size, 0, none⟩ : Addr).add j) = some u := by
  intro j u hu
  rw [ow_at, World.cell?_alloc_at _ _ _ _ rfl]
  rcases j with _ | _ | j
  · exact hu
  · exact hu
  · simp at hu
theorem step_blk {ops : Array Oper} {o : Oper} {a : Act} {K : Act → World → Prop} {Q : Exit → Act → World → Prop} {E : Prop} {v : Value} {k B s1 s2 : Nat} {xs : List Value} {x y : Value} {W : World}
    (hg : o.guard = none) (ho : o.op = .call { callee := .builtin .append, args := #[.tmp s1, .tmp s2], argTypes := #[39, 39] })
    (hs : a.eval (.tmp s1) = v) (hx : a.eval (.tmp s2) = .slice (some ⟨W.heap.size, 0, none⟩) 1 1) (hx1 : x.oneCell' = true) (hy1 : y.oneCell' = true) (hown : W.ownsRow B 56 2 v k xs) (hk : k ≤ 1000000) (hB : B ≤ W.heap.size)
    (h : ∀ g cap w', w'.ownsRow B 56 2 (.slice (some ⟨g, 0, none⟩) (k + 1) cap) (k + 1) (xs ++ [x, y]) → (W.alloc (.cells #[x, y] 56)).grownBy w' v.ownBlock → K (a.put o.dst (.slice (some ⟨g, 0, none⟩) (k + 1) cap)) w') :
    if Region.wanted o (yielded ops a.tmps) = true then Oper.wp Tryd.prog o a (W.alloc (.cells #[x, y] 56)) K Q else E := by
  obtain ⟨i0, hi0, hz0, hz1, hz2⟩ := info_parts infoB
  exact step_append_lies _ hg (.tmp s1) (.tmp s2) 39 ho B 56 i0 (.agg #[.int .i64 0, .string ⟨#[]⟩]) 2 24 Tryd.underlying39 hi0 hz0 hz1 hz2 rfl (by decide) v k xs hs (World.ownsRow.alloc hown _) ⟨W.heap.size, 0, none⟩ 1 1 [x, y] hx rfl new_two (by intro u hu; simp only [List.mem_cons, List.not_mem_nil, or_false] at hu; rcases hu with rfl | rfl; exact hx1; exact hy1) Nat.one_pos
    (by unfold maxLen; omega) (by omega) (by simp; omega) (W.heap.size + 1) (by simp) (fun g cap w' h1 h2 _ _ => h g cap w' h1 h2)

theorem cut_snocR {l : List BlkD} {lo hi : Int} {k : Nat} {d : BlkD} (hd : l[k]? = some d) : cutL (l.take (k + 1)) lo hi = cutL (l.take k) lo hi ++ if lo ≤ d.pos ∧ d.pos < hi then [] else [d] := by
  rw [cut_snoc hd]
  by_cases h : lo ≤ d.pos ∧ d.pos < hi
  · rw [if_pos h, if_pos (by unfold inB; simp; omega)]
  · rw [if_neg h, if_neg (by unfold inB; simp; omega)]
theorem cut_len (l : List BlkD) (lo hi : Int) (k : Nat) : (cutL (l.take k) lo hi).length ≤ k := Nat.le_trans (List.length_filter_le _ _) (List.length_take_le _ _)
theorem blkRows_snoc (l : List BlkD) (d : BlkD) : (blkRows (l ++ [d])).flatten = (blkRows l).flatten ++ [.int .i64 d.pos, .string d.text] := by
  unfold blkRows; rw [List.map_append, List.flatten_append]; rfl

/-- three cells of a box that may be written -/
structure FBox (b : Nat) (x y z : Value) (w : World) : Prop where
  c0 : w.cell? ⟨b, 0, none⟩ = some x
  c1 : w.cell? ⟨b, 1, none⟩ = some y
  c2 : w.cell? ⟨b, 2, none⟩ = some z
  f0 : w.frozen? ⟨b, 0, none⟩ = false
  f1 : w.frozen? ⟨b, 1, none⟩ = false
  f2 : w.frozen? ⟨b, 2, none⟩ = false
theorem FBox.lt {b : Nat} {x y z : Value} {w : World} (h : FBox b x y z w) : b < w.heap.size := World.block_lt_of_cell? _ _ h.c0
theorem FBox.grown {b : Nat} {x y z : Value} {W W' : World} {row : Option Nat} (h : FBox b x y z W) (hg : W.grownBy W' row) (hne : some b ≠ row) : FBox b x y z W' := by
  have hb := hg.block b h.lt hne
  have fz : ∀ i, W'.frozen? ⟨b, i, none⟩ = W.frozen? ⟨b, i, none⟩ := fun i => World.frozen?_of_block (a := ⟨b, i, none⟩) hb
  exact ⟨hg.cell h.c0 hne, hg.cell h.c1 hne, hg.cell h.c2 hne, (fz 0).trans h.f0, (fz 1).trans h.f1, (fz 2).trans h.f2⟩
theorem FBox.below {b : Nat} {x y z : Value} {W W' : World} (h : FBox b x y z W) (hb : Below W.heap.size W W') : FBox b x y z W' := h.grown (grown_of_below hb none) (by simp)
theorem FBox.far {b : Nat} {x y z : Value} {W : World} (h : FBox b x y z W) {p : Addr} (hp : p.block ≠ b) (u : Value) : FBox b x y z (W.setCell p u) :=
  ⟨(World.cell?_setCell_far _ _ _ _ hp).trans h.c0, (World.cell?_setCell_far _ _ _ _ hp).trans h.c1, (World.cell?_setCell_far _ _ _ _ hp).trans h.c2, (World.frozen?_setCell _ _ _ _).trans h.f0, (World.frozen?_setCell _ _ _ _).trans h.f1, (World.frozen?_setCell _ _ _ _).trans h.f2⟩
theorem FBox.set2 {b : Nat} {x y z : Value} {W : World} (h : FBox b x y z W) (u : Value) : FBox b x y u (W.setCell ⟨b, 2, none⟩ u) :=
  ⟨(World.cell?_setCell_other W ⟨b, 2, none⟩ ⟨b, 0, none⟩ u (by simp)).trans h.c0, (World.cell?_setCell_other W ⟨b, 2, none⟩ ⟨b, 1, none⟩ u (by simp)).trans h.c1, World.cell?_setCell_same W ⟨b, 2, none⟩ u h.c2, (World.frozen?_setCell _ _ _ _).trans h.f0, (World.frozen?_setCell _ _ _ _).trans h.f1, (World.frozen?_setCell _ _ _ _).trans h.f2⟩
theorem FBox.new {b : Nat} {x y z : Value} {W : World} (t : TypeId) (hb : W.heap.size = b) : FBox b x y z (W.alloc (.cells #[x, y, z] t)) := by
  subst hb; exact ⟨by simp, by simp, by simp, by simp, by simp, by simp⟩
/-- what Cut holds: the volume's box, the result's, its own -/
structure CBox (d : VolD) (xv bv : Value) (w W : World) : Prop where
  own : FBox (w.heap.size + 1 + 1) (.int .i64 d.id) (.int .i64 d.size) bv W
  arg : FBox w.heap.size (.int .i64 d.id) (.int .i64 d.size) xv W
  res : FBox (w.heap.size + 1) (.int .i64 0) (.int .i64 0) (.slice none 0 0) W
  old : Below w.heap.size w W
theorem CBox.below {d : VolD} {xv bv : Value} {w W W' : World} (h : CBox d xv bv w W) (hb : Below W.heap.size W W') : CBox d xv bv w W' :=
  ⟨h.own.below hb, h.arg.below hb, h.res.below hb, h.old.trans (hb.mono h.old.size)⟩
theorem CBox.grown {d : VolD} {xv bv vv : Value} {w W W' : World} {o : Obj} {e : TypeId} {k n : Nat} {xs : List Value} (h : CBox d xv bv w W) (ho : W.ownsRow (w.heap.size + 3) e k vv n xs) (hg : (W.alloc o).grownBy W' vv.ownBlock) : CBox d xv bv w W' := by
  have ha := h.below ((Below.refl W.heap.size W).alloc (Nat.le_refl _) o)
  have hne : ∀ b, b < w.heap.size + 3 → some b ≠ vv.ownBlock := fun b hb e => by have := (ho.lt b e.symm).1; omega
  exact ⟨ha.own.grown hg (hne _ (by omega)), ha.arg.grown hg (hne _ (by omega)), ha.res.grown hg (hne _ (by omega)), ha.old.grown hg ha.old.size (fun k e => by have := (ho.lt k e).1; omega)⟩
theorem CBox.store {d : VolD} {xv bv : Value} {w W : World} (h : CBox d xv bv w W) (u : Value) : CBox d xv u w (W.setCell ⟨w.heap.size + 1 + 1, 2, none⟩ u) :=
  ⟨h.own.set2 u, h.arg.far (by show w.heap.size + 1 + 1 ≠ _; omega) u, h.res.far (by show w.heap.size + 1 + 1 ≠ _; omega) u, h.old.setCell (show w.heap.size ≤ w.heap.size + 1 + 1 by omega) u⟩
def CutRel (d : VolD) (lo hi : Int) (xv : Value) (w : World) (i : Value) (wr : World) : Prop :=
  ∃ (k : Nat) (bv : Value), k ≤ d.blocks.length ∧ i = .int .i64 k ∧ CBox d xv bv w wr ∧ wr.ownsRow (w.heap.size + 3) 56 2 bv (cutL (d.blocks.take k) lo hi).length (blkRows (cutL (d.blocks.take k) lo hi)).flatten

set_option maxRecDepth 100000 in
set_option maxHeartbeats 4000000 in
theorem rcut_any (d : VolD) (lo hi : Int) (dp : Option Addr) (dc : Nat) (w : World) (hin : BlksIn w dp d.blocks) (hl : d.blocks.length ≤ 100000) :
    Calls Tryd.prog 32 #[.agg #[.int .i64 d.id, .int .i64 d.size, .slice dp d.blocks.length dc], .int .i64 lo, .int .i64 hi] w fun e w' => ∃ bv, e = .returned (.agg #[.int .i64 d.id, .int .i64 d.size, bv]) ∧
      w'.ownsRow w.heap.size 56 2 bv (cutL d.blocks lo hi).length (blkRows (cutL d.blocks lo hi)).flatten ∧ Below w.heap.size w w' := by
  have HIN := Lib.hid hin; clear hin
  have hlen : (d.blocks.length : Int) ≤ 100000 := by omega
  have HL := Lib.hid hl; clear hl
  obtain ⟨id, sz, bl⟩ := d
  simp only at HIN hlen HL ⊢
  go_enter Tryd.func32, Tryd.ntmps32
  go_wp2_with fail
  go_loopw [8] (fun i wr => CutRel ⟨id, sz, bl⟩ lo hi (.slice dp bl.length dc) w i wr) (fun i _ => bl.length - (intOf i).toNat)
  case atStart =>
    have b1 : Below w.heap.size w (w.alloc (.cells #[.int .i64 id, .int .i64 sz, .slice dp bl.length dc] 41)) := (Below.refl _ _).alloc (Nat.le_refl _) _
    refine ⟨0, .slice none 0 0, Nat.zero_le _, rfl, ⟨FBox.new _ (by simp), ((FBox.new _ rfl).below ((Below.refl _ _).alloc (Nat.le_refl _) _)).below ((Below.refl _ _).alloc (Nat.le_refl _) _), (FBox.new _ (by simp)).below ((Below.refl _ _).alloc (Nat.le_refl _) _), btrans (btrans b1 ((Below.refl _ _).alloc (Nat.le_refl _) _)) ((Below.refl _ _).alloc (Nat.le_refl _) _)⟩, ?_⟩
    exact World.ownsRow_nil _ _ _ _
  case round =>
    obtain ⟨k, bv, hk', rfl, hbx, hown⟩ := hrel
    have hk : k ≤ bl.length := hk'; clear hk'
    have HX := Lib.hid hbx; have HO := Lib.hid hown
    have a2 := hbx.arg.c2
    have hok := cut_len bl lo hi k
    clear hbx hown
    by_cases hlt : k < bl.length
    case neg =>
      obtain rfl : k = bl.length := by omega
      have r0 := HX.out.res.c0; have r1 := HX.out.res.c1; have r2 := HX.out.res.c2; have s0 := HX.out.res.f0; have s1 := HX.out.res.f1; have s2 := HX.out.res.f2
      have o0 := HX.out.own.c0; have o1 := HX.out.own.c1; have o2 := HX.out.own.c2
      have hbv : ∃ pp cc, bv = .slice pp (cutL (bl.take bl.length) lo hi).length cc := by obtain ⟨pp, cc, e, _⟩ := blks_of_own HO.out; exact ⟨pp, cc, e⟩
      obtain ⟨pp, cc, rfl⟩ := hbv
      have hltr := HX.out.res.lt
      go_wp2_with fail
      refine bodyPost_ret (v := .agg #[.int .i64 id, .int .i64 sz, .slice pp (cutL (bl.take bl.length) lo hi).length cc]) (by simp [results, Tryd.results32, go_sem, r0, r1, r2]) rfl ⟨_, rfl, ?_, ?_⟩
      · have := HO.out
        rw [List.take_length] at this ⊢
        exact ow_mono (show w.heap.size ≤ w.heap.size + 3 by omega) (ownsRow_setCell_below (ownsRow_setCell_below (ownsRow_setCell_below this (by show w.heap.size + 1 < _; omega) _) (by show w.heap.size + 1 < _; omega) _) (by show w.heap.size + 1 < _; omega) _)
      · exact ((HX.out.old.setCell (by show w.heap.size ≤ w.heap.size + 1; omega) _).setCell (by show w.heap.size ≤ w.heap.size + 1; omega) _).setCell (by show w.heap.size ≤ w.heap.size + 1; omega) _
    have hki : (k : Int) < (bl.length : Int) := by omega
    obtain ⟨b, hb⟩ : ∃ b, bl[k]? = some b := ⟨_, List.getElem?_eq_getElem hlt⟩
    obtain ⟨g, o, rfl, g0, g1⟩ := HIN.out.stays HX.out.old k b hb
    have HD := Lib.hid hb; clear hb
    by_cases hcut : lo ≤ b.pos ∧ b.pos < hi
    · have n1 : ¬ b.pos < lo := by omega
      have n2 : ¬ hi ≤ b.pos := by omega
      have HS := Lib.hid (show cutL (bl.take (k + 1)) lo hi = cutL (bl.take k) lo hi by rw [cut_snocR HD.out, if_pos hcut, List.append_nil]); clear hcut
      go_wp2_with fail
      go_roundw
      case rel => exact ⟨k + 1, _, (show k + 1 ≤ bl.length by omega), by go_num, HX.out, by simp only [HS.out]; exact HO.out⟩
      case measure => simp [intOf]; omega
    · have HS := Lib.hid (show cutL (bl.take (k + 1)) lo hi = cutL (bl.take k) lo hi ++ [b] by rw [cut_snocR HD.out, if_neg hcut])
      have hor : b.pos < lo ∨ (¬ b.pos < lo ∧ hi ≤ b.pos) := by omega
      have o2 := HX.out.own.c2
      have HDR := Lib.hid (HX.out.below (Below.refl _ _).drew)
      have HODR := Lib.hid (own_belowW HO.out (Below.refl _ _).drew)
      have HK := Lib.hid (show (cutL (bl.take k) lo hi).length ≤ 1000000 by omega)
      have HBB := Lib.hid (show w.heap.size + 3 ≤ wr.drew.heap.size from HX.out.own.lt)
      have hne : wr.heap.size ≠ w.heap.size + 1 + 1 := by have := HX.out.own.lt; omega
      have hlt2 : w.heap.size + 1 + 1 < wr.heap.size := HX.out.own.lt
      clear hcut hok
      rcases hor with h1 | ⟨h1, h2⟩
      all_goals
        go_wp2_with fail
        go_region_law ((refine step_blk rfl rfl rfl rfl rfl rfl HODR.out HK.out HBB.out ?_; intro gg cap w1 hown1 hgrow1; have HB1 := Lib.hid (CBox.grown HDR.out HODR.out hgrow1); have p2 := HB1.out.own.c2; have p3 := HB1.out.own.f2; have HO1 := Lib.hid hown1; clear hown1 hgrow1))
        all_goals
          go_wp2_with fail
          go_roundw
          case rel =>
            refine ⟨k + 1, _, (show k + 1 ≤ bl.length by omega), by go_num, CBox.store HB1.out _, ?_⟩
            simp only [HS.out, blkRows_snoc, List.length_append, List.length_singleton]
            exact ownsRow_setCell_below HO1.out (by show w.heap.size + 1 + 1 < _; omega) _
          case measure => simp [intOf]; omega
end Go.Proofs.YtgabifkechofnaaDoor
namespace Go.Proofs.YtgabifkechofnaaDoor
open Go.RowKit

theorem below_lt {W w1 : World} (hb : Below W.heap.size W w1) : ∀ b, b < W.heap.size → b < w1.heap.size := fun _ h => Nat.lt_of_lt_of_le h hb.size
theorem size_drew (W : World) : W.drew.heap.size = W.heap.size := rfl
theorem FBox.three {b : Nat} {x y z x' y' z' : Value} {W : World} (h : FBox b x y z W) : FBox b x' y' z' (((W.setCell ⟨b, 0, none⟩ x').setCell ⟨b, 1, none⟩ y').setCell ⟨b, 2, none⟩ z') := by
  have h0 := h.c0; have h1 := h.c1; have h2 := h.c2; have f0 := h.f0; have f1 := h.f1; have f2 := h.f2
  refine ⟨?_, ?_, ?_, by simpa using f0, by simpa using f1, by simpa using f2⟩
  · rw [World.cell?_setCell_other _ _ _ _ (by simp), World.cell?_setCell_other _ _ _ _ (by simp)]; exact World.cell?_setCell_same _ _ _ h0
  · rw [World.cell?_setCell_other _ _ _ _ (by simp)]; exact World.cell?_setCell_same _ _ _ ((World.cell?_setCell_other _ _ _ _ (by simp)).trans h1)
  · exact World.cell?_setCell_same _ _ _ ((World.cell?_setCell_other _ _ _ _ (by simp)).trans ((World.cell?_setCell_other _ _ _ _ (by simp)).trans h2))
/-- a row of blocks that the call owns, and in which blocks it lies -/
def RowK (B H : Nat) (v : Value) (l : List BlkD) (w : World) : Prop := w.ownsRow B 56 2 v l.length (blkRows l).flatten ∧ ∀ g, v.ownBlock = some g → g < H
theorem RowK.mk {B : Nat} {v : Value} {l : List BlkD} {w : World} (h : w.ownsRow B 56 2 v l.length (blkRows l).flatten) : RowK B w.heap.size v l w := ⟨h, fun g hg => (h.lt g hg).2⟩
theorem RowK.mk' {B : Nat} {v : Value} {l : List BlkD} {w : World} (h : w.ownsRow B 56 2 v l.length (blkRows l).flatten) : ∃ B' H, B' = B ∧ H = w.heap.size ∧ RowK B' H v l w := ⟨_, _, rfl, rfl, RowK.mk h⟩
theorem RowK.set_ {B H : Nat} {v : Value} {l : List BlkD} {w : World} (h : RowK B H v l w) {b j : Nat} (hp : b < B ∨ H ≤ b) (u : Value) : RowK B H v l (w.setCell ⟨b, j, none⟩ u) :=
  ⟨World.ownsRow.kept h.1 (grown_setCell w b j u) (.inr fun e => by have h1 := h.1.lt _ e; have h2 := h.2 _ e; omega), h.2⟩
theorem RowK.below_ {B H : Nat} {v : Value} {l : List BlkD} {w w' : World} (h : RowK B H v l w) (hb : Below w.heap.size w w') : RowK B H v l w' := ⟨own_belowW h.1 hb, h.2⟩
theorem RowK.alloc_ {B H : Nat} {v : Value} {l : List BlkD} {w : World} (h : RowK B H v l w) (o : Obj) : RowK B H v l (w.alloc o) := h.below_ ((Below.refl _ _).alloc (Nat.le_refl _) _)
theorem RowK.drew_ {B H : Nat} {v : Value} {l : List BlkD} {w : World} (h : RowK B H v l w) : RowK B H v l w.drew := h.below_ (Below.refl _ _).drew
theorem RowK.to {B H B' : Nat} {v : Value} {l : List BlkD} {w : World} (hB : B' ≤ B) (h : RowK B H v l w) : w.ownsRow B' 56 2 v l.length (blkRows l).flatten := ow_mono hB h.1
theorem RowK.tu {B H B' : Nat} {v : Value} {l : List BlkD} {w : World} (h : RowK B H v l w) (hB : B' ≤ B) : w.ownsRow B' 56 2 v l.length (blkRows l).flatten := ow_mono hB h.1
theorem FBox.far_ {b b' j : Nat} {x y z : Value} {W : World} (h : FBox b x y z W) (hp : b' ≠ b) (u : Value) : FBox b x y z (W.setCell ⟨b', j, none⟩ u) := h.far hp u
theorem below_set {B b j : Nat} {a w : World} (h : Below B a w) (hp : B ≤ b) (u : Value) : Below B a (w.setCell ⟨b, j, none⟩ u) := h.setCell hp u
/-- a box of three cells that may be written, whatever they hold -/
def Live (b : Nat) (W : World) : Prop := ∃ x y z, FBox b x y z W
theorem Live.set_ {b b' j : Nat} {W : World} (h : Live b W) (hp : b' ≠ b) (u : Value) : Live b (W.setCell ⟨b', j, none⟩ u) := by obtain ⟨x, y, z, h⟩ := h; exact ⟨x, y, z, h.far hp u⟩
theorem Live.below_ {b : Nat} {W W' : World} (h : Live b W) (hb : Below W.heap.size W W') : Live b W' := by obtain ⟨x, y, z, h⟩ := h; exact ⟨x, y, z, h.below hb⟩
theorem Live.alloc_ {b : Nat} {W : World} (h : Live b W) (o : Obj) : Live b (W.alloc o) := h.below_ ((Below.refl _ _).alloc (Nat.le_refl _) _)
theorem Live.drew_ {b : Nat} {W : World} (h : Live b W) : Live b W.drew := h.below_ (Below.refl _ _).drew
theorem Live.new_ {b : Nat} {W : World} {x y z : Value} (t : TypeId) (hb : W.heap.size = b) : Live b (W.alloc (.cells #[x, y, z] t)) := ⟨x, y, z, FBox.new t hb⟩
theorem Live.three {b : Nat} {x y z : Value} {W : World} (h : Live b W) : FBox b x y z (((W.setCell ⟨b, 0, none⟩ x).setCell ⟨b, 1, none⟩ y).setCell ⟨b, 2, none⟩ z) := by obtain ⟨_, _, _, h⟩ := h; exact h.three
theorem FBox.drew_ {b : Nat} {x y z : Value} {W : World} (h : FBox b x y z W) : FBox b x y z W.drew := h.below (Below.refl _ _).drew
theorem FBox.alloc_ {b : Nat} {x y z : Value} {W : World} (h : FBox b x y z W) (o : Obj) : FBox b x y z (W.alloc o) := h.below ((Below.refl _ _).alloc (Nat.le_refl _) _)
theorem keepBox {b : Nat} {x y z : Value} {W : World} (h : FBox b x y z W) : W.cell? ⟨b, 0, none⟩ = some x ∧ W.cell? ⟨b, 1, none⟩ = some y ∧ W.cell? ⟨b, 2, none⟩ = some z := ⟨h.c0, h.c1, h.c2⟩
/-- what Write holds behind its first statement: two volumes in boxes of its own, whose blocks are rows of its own -/
structure WrS (d : VolD) (l1 l2 : List BlkD) (xv : Value) (w : World) (b7 b8 : Nat) (v1 v2 : Value) (wx : World) : Prop where
  p7 : w.heap.size + 1 < b7
  p8 : w.heap.size + 1 < b8
  c7 : FBox b7 (.int .i64 d.id) (.int .i64 d.size) v1 wx
  c8 : FBox b8 (.int .i64 d.id) (.int .i64 d.size) v2 wx
  r1 : wx.ownsRow w.heap.size 56 2 v1 l1.length (blkRows l1).flatten
  r2 : wx.ownsRow w.heap.size 56 2 v2 l2.length (blkRows l2).flatten
  arg : FBox w.heap.size (.int .i64 d.id) (.int .i64 d.size) xv wx
  res : FBox (w.heap.size + 1) (.int .i64 0) (.int .i64 0) (.slice none 0 0) wx
  old : Below w.heap.size w wx
def WrAt (d : VolD) (l1 l2 : List BlkD) (xv : Value) (w : World) (p7 p8 : Value) (wx : World) : Prop :=
  ∃ b7 b8 v1 v2, p7 = .pointer (some ⟨b7, 0, none⟩) ∧ p8 = .pointer (some ⟨b8, 0, none⟩) ∧ WrS d l1 l2 xv w b7 b8 v1 v2 wx

/-- what Write holds of its result: the box of it, the row of its blocks, the second volume's box and row -/
structure OutS (w : World) (id sz : Int) (b8 bo : Nat) (v2 : Value) (l2 : List BlkD) (vo : Value) (lo : List BlkD) (wx : World) : Prop where
  box : FBox bo (.int .i64 id) (.int .i64 sz) vo wx
  row : wx.ownsRow (bo + 1) 56 2 vo lo.length (blkRows lo).flatten
  c8 : FBox b8 (.int .i64 id) (.int .i64 sz) v2 wx
  r2 : RowK w.heap.size bo v2 l2 wx
  res : FBox (w.heap.size + 1) (.int .i64 0) (.int .i64 0) (.slice none 0 0) wx
  old : Below w.heap.size w wx
  lt : w.heap.size + 1 < b8 ∧ b8 < bo
theorem OutS.below {w wx wy : World} {id sz : Int} {b8 bo : Nat} {v2 vo : Value} {l2 lo : List BlkD} (h : OutS w id sz b8 bo v2 l2 vo lo wx) (hb : Below wx.heap.size wx wy) : OutS w id sz b8 bo v2 l2 vo lo wy :=
  ⟨h.box.below hb, own_belowW h.row hb, h.c8.below hb, h.r2.below_ hb, h.res.below hb, btrans h.old hb, h.lt⟩
theorem OutS.step {w wx w' : World} {id sz : Int} {b8 bo : Nat} {v2 vo vo' : Value} {l2 lo lo' : List BlkD} (h : OutS w id sz b8 bo v2 l2 vo lo wx) (hg : wx.grownBy w' vo.ownBlock) (hr : w'.ownsRow (bo + 1) 56 2 vo' lo'.length (blkRows lo').flatten) :
    OutS w id sz b8 bo v2 l2 vo' lo' (w'.setCell ⟨bo, 2, none⟩ vo') := by
  have hne : ∀ b, b < bo + 1 → some b ≠ vo.ownBlock := fun b hb e => by have := (h.row.lt b e.symm).1; omega
  have hl := h.lt
  have hbl := h.box.lt
  refine ⟨(h.box.grown hg (hne _ (by omega))).set2 vo', ownsRow_setCell_below hr (by show bo < bo + 1; omega) _, (h.c8.grown hg (hne _ (by omega))).far (by show bo ≠ b8; omega) _, ?_, (h.res.grown hg (hne _ (by omega))).far (by show bo ≠ _; omega) _, ?_, hl⟩
  · refine RowK.set_ ⟨World.ownsRow.kept h.r2.1 hg ?_, h.r2.2⟩ (.inr (Nat.le_refl _)) _
    cases hv : v2.ownBlock with
    | none => exact .inl rfl
    | some g => exact .inr (fun e => hne g (by have := h.r2.2 g hv; omega) e)
  · exact (h.old.grown hg h.old.size (fun k e => by have := (h.row.lt k e).1; omega)).setCell (by show w.heap.size ≤ bo; omega) _
theorem src_of_row {B n : Nat} {v : Value} {l : List BlkD} {w : World} (h : w.ownsRow B 56 2 v n (blkRows l).flatten) : ∃ p c, v = .slice p n c ∧ (p = none → c = 0) ∧ SrcAt w p n 2 (blkRows l).flatten := by
  obtain ⟨p, c, hv, _, _, hs⟩ := ow_src h (blkRows_one l)
  refine ⟨p, c, hv, fun hp => ?_, hs⟩
  subst hp
  rcases ow_slice h with ⟨h1, _, _⟩ | ⟨g, cap, h1⟩
  · rw [hv] at h1; injection h1 with _ _ h3
  · rw [hv] at h1; injection h1 with h2; cases h2

theorem src_at {B n m : Nat} {p : Option Addr} {c : Nat} {l : List BlkD} {w : World} (h : w.ownsRow B 56 2 (.slice p m c) n (blkRows l).flatten) : SrcAt w p n 2 (blkRows l).flatten := by
  obtain ⟨q, d, hv, _, hs⟩ := src_of_row h
  injection hv with h1 h2 h3
  subst h1; exact hs
theorem blkRows_cat (a b : List BlkD) : (blkRows (a ++ b)).flatten = (blkRows a).flatten ++ (blkRows b).flatten := by unfold blkRows; rw [List.map_append, List.flatten_append]

set_option maxRecDepth 100000 in
set_option maxHeartbeats 16000000 in
theorem rwrite_any (d : VolD) (at_ : Int) (s : ByteArray) (dp : Option Addr) (dc : Nat) (w : World) (hin : BlksIn w dp d.blocks) (hl : d.blocks.length ≤ 100000) (ha : 0 ≤ at_ ∧ at_ ≤ 100000) :
    Calls Tryd.prog 34 #[.agg #[.int .i64 d.id, .int .i64 d.size, .slice dp d.blocks.length dc], .int .i64 at_, .string s] w fun e w' => ∃ bv, e = .returned (.agg #[.int .i64 d.id, .int .i64 d.size, bv]) ∧
      w'.ownsRow w.heap.size 56 2 bv (cutL d.blocks at_ 100000 ++ [(⟨at_, s⟩ : BlkD)] ++ cutL d.blocks 0 (at_ + 1)).length (blkRows (cutL d.blocks at_ 100000 ++ [(⟨at_, s⟩ : BlkD)] ++ cutL d.blocks 0 (at_ + 1))).flatten ∧ Below w.heap.size w w' := by
  have hlen : (d.blocks.length : Int) ≤ 100000 := by omega
  have HIN := Lib.hid hin; clear hin
  have HL := Lib.hid hl; clear hl
  obtain ⟨id, sz, bl⟩ := d
  simp only at HIN hlen HL ⊢
  have hw : IntKind.i64.wrap (at_ + 1) = at_ + 1 := IntWalk.i64_in _ (by omega)
  go_enter Tryd.func34, Tryd.ntmps34
  go_upto_region 1 with fail
  obtain ⟨W2, hW2⟩ : ∃ W2, ((w.alloc (.cells #[.int .i64 id, .int .i64 sz, .slice dp bl.length dc] 41)).alloc (.cells #[.int .i64 0, .int .i64 0, .slice none 0 0] 41)) = W2 := ⟨_, rfl⟩
  rw [hW2]
  have HB2 := Lib.hid (show Below w.heap.size w W2 by rw [← hW2]; exact ((Below.refl w.heap.size w).alloc (Nat.le_refl _) _).alloc (by simp) _)
  have HRB := Lib.hid (show FBox (w.heap.size + 1) (.int .i64 0) (.int .i64 0) (.slice none 0 0) W2 by rw [← hW2]; exact FBox.new _ (by simp))
  have HAB := Lib.hid (show FBox w.heap.size (.int .i64 id) (.int .i64 sz) (.slice dp bl.length dc) W2 by rw [← hW2]; exact (FBox.new _ rfl).below ((Below.refl _ _).alloc (Nat.le_refl _) _))
  clear hW2
  go_cut [7, 8] (fun p7 p8 wx => WrAt ⟨id, sz, bl⟩ (cutL bl at_ 100000) (cutL bl 0 (at_ + 1)) (.slice dp bl.length dc) w p7 p8 wx)
  case first =>
    have hlt0 : w.heap.size < W2.drew.heap.size := HAB.out.lt; have hlt1 : w.heap.size + 1 < W2.drew.heap.size := HRB.out.lt; have hlt2 := HAB.out.lt
    have hc0 := HAB.out.c0; have hc1 := HAB.out.c1; have hc2 := HAB.out.c2
    have HQ := HAB
    have hlt5 := HAB.out.lt
    have hlt6 := HRB.out.lt
    have hsz := Nat.le_refl W2.heap.size
    have hdr : W2.drew.heap.size = W2.heap.size := rfl
    go_region_held3 (fun w' => w'.cell? ⟨w.heap.size, 0, none⟩ = some (.int .i64 id) ∧ w'.cell? ⟨w.heap.size, 1, none⟩ = some (.int .i64 sz) ∧ w'.cell? ⟨w.heap.size, 2, none⟩ = some (.slice dp bl.length dc))
      ((refine keepBox ?_; repeat (first | (with_reducible refine FBox.drew_ ?_) | (with_reducible refine FBox.alloc_ ?_ _) | (with_reducible refine FBox.far ?_ (by first | (dsimp only; omega) | (simp; done) | (simp; omega)) _) | (with_reducible exact HQ.out))))
      (first | ((go_at_call 32; with_reducible refine (rcut_any ⟨id, sz, bl⟩ at_ 100000 dp dc _ (HIN.out.stays (by (repeat (first | (with_reducible exact HB2.out) | (with_reducible refine Below.drew ?_) | (with_reducible refine Below.setCell ?_ (by first | omega | (simp; done) | (simp; omega)) _) | (with_reducible refine Below.alloc ?_ (by first | omega | (simp; done) | (simp; omega)) _) | (with_reducible refine btrans ?_ (Hid.out (by assumption))))))) HL.out).mono ?_); rintro e w5 ⟨bv, rfl, hrow, hb⟩; obtain ⟨ppa, cca, rfl, _, _, hbk⟩ := blks_of_own hrow; have HQ1 := Lib.hid (FBox.below (show FBox w.heap.size (.int .i64 id) (.int .i64 sz) (.slice dp bl.length dc) _ by (repeat (first | (with_reducible refine FBox.drew_ ?_) | (with_reducible refine FBox.alloc_ ?_ _) | (with_reducible refine FBox.far ?_ (by first | (dsimp only; omega) | (simp; done) | (simp; omega)) _) | (with_reducible exact HQ.out)))) hb); clear HQ hc0 hc1 hc2; have HQ := HQ1; clear HQ1; have hc0 := HQ.out.c0; have hc1 := HQ.out.c1; have hc2 := HQ.out.c2; have hlt5 := HQ.out.lt; obtain ⟨hcc, hff⟩ := bcell hb; have hzz := below_lt hb; have hsz : W2.heap.size ≤ w5.heap.size := (by (have := hb.size; (try simp at this); omega)); (try (have hz1 : W2.heap.size < w5.heap.size := by (have := hb.size; (try simp at this); omega))); (try (have hz2 : W2.heap.size + 1 < w5.heap.size := by (have := hb.size; (try simp at this); omega))); have HSZa := Lib.hid (show _ ≤ _ from hb.size); obtain ⟨Ba, Ha, hBa, hHa, hra⟩ := RowK.mk' hrow; have HRa := Lib.hid hra; have EBa := Lib.hid hBa; have EHa := Lib.hid hHa; clear hra hBa hHa; have HBa := Lib.hid hb; clear hrow hb hbk) | ((go_at_call 32; with_reducible refine (rcut_any ⟨id, sz, bl⟩ 0 (at_ + 1) dp dc _ (HIN.out.stays (by (repeat (first | (with_reducible exact HB2.out) | (with_reducible refine Below.drew ?_) | (with_reducible refine Below.setCell ?_ (by first | omega | (simp; done) | (simp; omega)) _) | (with_reducible refine Below.alloc ?_ (by first | omega | (simp; done) | (simp; omega)) _) | (with_reducible refine btrans ?_ (Hid.out (by assumption))))))) HL.out).mono ?_); rintro e w5 ⟨bv, rfl, hrow, hb⟩; obtain ⟨ppb, ccb, rfl, _, _, hbk⟩ := blks_of_own hrow; have HQ1 := Lib.hid (FBox.below (show FBox w.heap.size (.int .i64 id) (.int .i64 sz) (.slice dp bl.length dc) _ by (repeat (first | (with_reducible refine FBox.drew_ ?_) | (with_reducible refine FBox.alloc_ ?_ _) | (with_reducible refine FBox.far ?_ (by first | (dsimp only; omega) | (simp; done) | (simp; omega)) _) | (with_reducible exact HQ.out)))) hb); clear HQ hc0 hc1 hc2; have HQ := HQ1; clear HQ1; have hc0 := HQ.out.c0; have hc1 := HQ.out.c1; have hc2 := HQ.out.c2; have hlt5 := HQ.out.lt; obtain ⟨hcc, hff⟩ := bcell hb; have hzz := below_lt hb; have hsz : W2.heap.size ≤ w5.heap.size := (by (have := hb.size; (try simp at this); omega)); (try (have hz1 : W2.heap.size < w5.heap.size := by (have := hb.size; (try simp at this); omega))); (try (have hz2 : W2.heap.size + 1 < w5.heap.size := by (have := hb.size; (try simp at this); omega))); have HSZb := Lib.hid (show _ ≤ _ from hb.size); obtain ⟨Bb, Hb, hBb, hHb, hrb⟩ := RowK.mk' hrow; have HRb := Lib.hid hrb; have EBb := Lib.hid hBb; have EHb := Lib.hid hHb; clear hrb hBb hHb; have HBb := Lib.hid hb; clear hrow hb hbk))
    all_goals
      go_wp2_with fail
      go_meet
      have hsa := HSZa.out
      have hsb := HSZb.out
      (try simp only [World.size_alloc, size_drew] at hsa hsb)
      have eba := EBa.out; have eha := EHa.out; have ebb := EBb.out; have ehb := EHb.out
      (try simp only [World.size_alloc, size_drew] at eba ebb)
      clear hw
      refine ⟨_, _, .slice ppa (cutL bl at_ 100000).length cca, .slice ppb (cutL bl 0 (at_ + 1)).length ccb, rfl, rfl, ?_⟩
      refine ⟨?_, ?_, ?_, ?_, ?_, ?_, ?_, ?_, ?_⟩
      · (first | omega | (simp only [World.size_alloc, World.size_setCell, size_drew]; omega))
      · (first | omega | (simp only [World.size_alloc, World.size_setCell, size_drew]; omega))
      · (try dsimp only); repeat (first | (with_reducible exact HAB.out) | (with_reducible exact HRB.out) | (with_reducible refine FBox.drew_ ?_) | (with_reducible refine Live.three ?_) | ((with_reducible refine FBox.far_ ?_ ?_ _); rotate_left; (first | omega | (simp only [World.size_alloc, World.size_setCell, size_drew]; omega))) | ((with_reducible refine FBox.new _ ?_); (first | (with_reducible rfl) | (simp only [World.size_alloc, World.size_setCell]; done))) | (with_reducible refine FBox.alloc_ ?_ _) | (with_reducible refine FBox.below ?_ HBa.out) | (with_reducible refine FBox.below ?_ HBb.out) | (with_reducible refine Live.drew_ ?_) | ((with_reducible refine Live.set_ ?_ ?_ _); rotate_left; (first | omega | (simp only [World.size_alloc, World.size_setCell, size_drew]; omega))) | ((with_reducible refine Live.new_ _ ?_); (first | (with_reducible rfl) | (simp only [World.size_alloc]; done))) | (with_reducible refine Live.alloc_ ?_ _) | (with_reducible refine Live.below_ ?_ HBa.out) | (with_reducible refine Live.below_ ?_ HBb.out))
      · (try dsimp only); repeat (first | (with_reducible exact HAB.out) | (with_reducible exact HRB.out) | (with_reducible refine FBox.drew_ ?_) | (with_reducible refine Live.three ?_) | ((with_reducible refine FBox.far_ ?_ ?_ _); rotate_left; (first | omega | (simp only [World.size_alloc, World.size_setCell, size_drew]; omega))) | ((with_reducible refine FBox.new _ ?_); (first | (with_reducible rfl) | (simp only [World.size_alloc, World.size_setCell]; done))) | (with_reducible refine FBox.alloc_ ?_ _) | (with_reducible refine FBox.below ?_ HBa.out) | (with_reducible refine FBox.below ?_ HBb.out) | (with_reducible refine Live.drew_ ?_) | ((with_reducible refine Live.set_ ?_ ?_ _); rotate_left; (first | omega | (simp only [World.size_alloc, World.size_setCell, size_drew]; omega))) | ((with_reducible refine Live.new_ _ ?_); (first | (with_reducible rfl) | (simp only [World.size_alloc]; done))) | (with_reducible refine Live.alloc_ ?_ _) | (with_reducible refine Live.below_ ?_ HBa.out) | (with_reducible refine Live.below_ ?_ HBb.out))
      · (refine RowK.tu (B := Ba) (H := Ha) ?_ ?_; all_goals (repeat (first | (with_reducible exact HRa.out) | (with_reducible refine RowK.set_ ?_ ?_ _) | (with_reducible refine RowK.alloc_ ?_ _) | (with_reducible refine RowK.below_ ?_ HBa.out) | (with_reducible refine RowK.below_ ?_ HBb.out))); all_goals (first | omega | (simp only [World.size_alloc, World.size_setCell, size_drew]; omega)))
      · (refine RowK.tu (B := Bb) (H := Hb) ?_ ?_; all_goals (repeat (first | (with_reducible exact HRb.out) | (with_reducible refine RowK.set_ ?_ ?_ _) | (with_reducible refine RowK.alloc_ ?_ _) | (with_reducible refine RowK.below_ ?_ HBa.out) | (with_reducible refine RowK.below_ ?_ HBb.out))); all_goals (first | omega | (simp only [World.size_alloc, World.size_setCell, size_drew]; omega)))
      · (try dsimp only); repeat (first | (with_reducible exact HAB.out) | (with_reducible exact HRB.out) | (with_reducible refine FBox.drew_ ?_) | (with_reducible refine Live.three ?_) | ((with_reducible refine FBox.far_ ?_ ?_ _); rotate_left; (first | omega | (simp only [World.size_alloc, World.size_setCell, size_drew]; omega))) | ((with_reducible refine FBox.new _ ?_); (first | (with_reducible rfl) | (simp only [World.size_alloc, World.size_setCell, size_drew]; done))) | (with_reducible refine FBox.alloc_ ?_ _) | (with_reducible refine FBox.below ?_ HBa.out) | (with_reducible refine FBox.below ?_ HBb.out) | (with_reducible refine Live.drew_ ?_) | ((with_reducible refine Live.set_ ?_ ?_ _); rotate_left; (first | omega | (simp only [World.size_alloc, World.size_setCell, size_drew]; omega))) | ((with_reducible refine Live.new_ _ ?_); (first | (with_reducible rfl) | (simp only [World.size_alloc, World.size_setCell, size_drew]; done))) | (with_reducible refine Live.alloc_ ?_ _) | (with_reducible refine Live.below_ ?_ HBa.out) | (with_reducible refine Live.below_ ?_ HBb.out))
      · repeat (first | (with_reducible exact HAB.out) | (with_reducible exact HRB.out) | (with_reducible refine FBox.drew_ ?_) | (with_reducible refine Live.three ?_) | ((with_reducible refine FBox.far_ ?_ ?_ _); rotate_left; (first | omega | (simp only [World.size_alloc, World.size_setCell, size_drew]; omega))) | ((with_reducible refine FBox.new _ ?_); (first | (with_reducible rfl) | (simp only [World.size_alloc]; done))) | (with_reducible refine FBox.alloc_ ?_ _) | (with_reducible refine FBox.below ?_ HBa.out) | (with_reducible refine FBox.below ?_ HBb.out) | (with_reducible refine Live.drew_ ?_) | ((with_reducible refine Live.set_ ?_ ?_ _); rotate_left; (first | omega | (simp only [World.size_alloc, World.size_setCell, size_drew]; omega))) | ((with_reducible refine Live.new_ _ ?_); (first | (with_reducible rfl) | (simp only [World.size_alloc, World.size_setCell, size_drew]; done))) | (with_reducible refine Live.alloc_ ?_ _) | (with_reducible refine Live.below_ ?_ HBa.out) | (with_reducible refine Live.below_ ?_ HBb.out))
      · repeat (first | (with_reducible exact HB2.out) | (with_reducible refine Below.drew ?_) | ((with_reducible refine below_set ?_ ?_ _); rotate_left; (first | omega | (simp only [World.size_alloc, World.size_setCell, size_drew]; omega))) | ((with_reducible refine Below.alloc ?_ ?_ _); rotate_left; (first | omega | (simp only [World.size_alloc, World.size_setCell]; omega))) | (with_reducible refine btrans ?_ HBa.out) | (with_reducible refine btrans ?_ HBb.out))
  case rest =>
    clear hw
    obtain ⟨b7, b8, v1, v2, rfl, rfl, hst⟩ := hcut
    have HST := Lib.hid hst
    obtain ⟨p1, c1, hv1, hn1, hs1⟩ := src_of_row hst.r1
    obtain ⟨p2, c2, hv2, hn2, _⟩ := src_of_row hst.r2
    subst hv1; subst hv2
    have HN1 := Lib.hid hn1; have HN2 := Lib.hid hn2; have HS1 := Lib.hid hs1
    have a0 := hst.arg.c0; have a1 := hst.arg.c1
    have q70 := hst.c7.c2
    have hp7 := hst.p7; have hp8 := hst.p8
    have hl7 := hst.c7.lt; have hl8 := hst.c8.lt; have hla := hst.arg.lt
    have hn1l : (cutL bl at_ 100000).length ≤ 100000 := Nat.le_trans (List.length_filter_le _ _) HL.out
    have hn2l : (cutL bl 0 (at_ + 1)).length ≤ 100000 := Nat.le_trans (List.length_filter_le _ _) HL.out
    obtain ⟨i0, hi, hz0, hz1, hz2⟩ := info_parts infoB
    clear hn1 hn2 hs1 hst
    go_upto_region 3 with fail
    obtain ⟨W3, hW3⟩ : ∃ W3, wc.alloc (.cells #[.int .i64 id, .int .i64 sz, .slice none 0 0] 41) = W3 := ⟨_, rfl⟩
    rw [hW3]
    have hb3 : Below wc.heap.size wc W3 := by rw [← hW3]; exact (Below.refl _ _).alloc (Nat.le_refl _) _
    have hsz3 : W3.heap.size = wc.heap.size + 1 := by rw [← hW3]; simp
    have HO3 := Lib.hid (show OutS w id sz b8 wc.heap.size (.slice p2 (cutL bl 0 (at_ + 1)).length c2) (cutL bl 0 (at_ + 1)) (.slice none 0 0) [] W3 from
      ⟨by rw [← hW3]; exact FBox.new _ rfl, World.ownsRow_nil _ _ _ _, HST.out.c8.below hb3, (RowK.below_ ⟨HST.out.r2, fun g hg => (HST.out.r2.lt g hg).2⟩ hb3), HST.out.res.below hb3, btrans HST.out.old hb3, hp8, hl8⟩)
    have q72 := cell_stays hb3 q70
    obtain ⟨va, wa, hrun1, hown1, hg1⟩ := run_append_src (P := Tryd.prog) W3 (wc.heap.size + 1) 39 39 56 i0 (.agg #[.int .i64 0, .string ⟨#[]⟩]) 2 24 Tryd.underlying39 hi hz0 hz1 hz2 rfl (by decide) (.slice none 0 0) 0 [] (World.ownsRow_nil _ _ _ _) p1 (cutL bl at_ 100000).length c1 (blkRows (cutL bl at_ 100000)).flatten (HS1.out.stays hb3) HN1.out (by unfold maxLen; omega) (by omega) (by omega)
    simp only [Nat.zero_add, List.nil_append] at hown1
    obtain ⟨pa, ca, hva, _, _⟩ := src_of_row hown1
    subst hva
    have HR1 := Lib.hid hrun1
    have HO4 := Lib.hid (HO3.out.step hg1 hown1)
    have HB4 := Lib.hid ((HO3.out.box.grown hg1 (by simp [Value.ownBlock])))
    have o0 := HO3.out.box.c0; have o1 := HO3.out.box.c1; have o2 := HO3.out.box.c2
    have o4 := HB4.out.c2; have of4 := HB4.out.f2
    clear hown1 hg1 hrun1 q70 a0 a1 hW3 hb3
    go_upto_region 4 with ((at_builtin; refine Lib.wpList_append_run _ rfl _ _ _ _ rfl _ _ rfl rfl _ _ HR1.out ?_))
    obtain ⟨W4, hW4⟩ : ∃ W4, wa.setCell ⟨wc.heap.size, 2, none⟩ (.slice pa (cutL bl at_ 100000).length ca) = W4 := ⟨_, rfl⟩
    rw [hW4] at HO4
    rw [hW4]
    clear hW4 o0 o1 o2 o4 of4
    have o2 := HO4.out.box.c2
    have hl4 := HO4.out.box.lt
    go_upto_region 5 with ((at_builtin; refine wpList_append_own _ rfl _ _ 39 rfl (wc.heap.size + 1) 56 i0 (.agg #[.int .i64 0, .string ⟨#[]⟩]) 2 24 Tryd.underlying39 hi hz0 hz1 hz2 rfl (by decide) _ _ _ rfl (HO4.out.row.alloc _) ⟨W4.heap.size, 0, none⟩ 1 1 [.int .i64 at_, .string s] rfl rfl new_two (by simp [Value.oneCell']) (by unfold maxLen; omega) (by omega) (by simp; omega) ?_; intro vb wb hown2 hg2 _; obtain ⟨pb, cb, hvb, _, _⟩ := src_of_row (l := cutL bl at_ 100000 ++ [⟨at_, s⟩]) (by rw [blkRows_snoc]; exact hown2); subst hvb; have HO5 := Lib.hid ((HO4.out.below ((Below.refl _ _).alloc (Nat.le_refl _) _)).step hg2 (lo' := cutL bl at_ 100000 ++ [⟨at_, s⟩]) (by rw [blkRows_snoc, List.length_append]; exact hown2)); have HB5 := Lib.hid (((HO4.out.below ((Below.refl _ _).alloc (Nat.le_refl _) _)).box.grown hg2 (fun e => by have := (HO4.out.row.lt _ e.symm).1; omega))); have o5 := HB5.out.c2; have of5 := HB5.out.f2; clear hown2 hg2))
    obtain ⟨W5, hW5⟩ : ∃ W5, wb.setCell ⟨wc.heap.size, 2, none⟩ (.slice pb ((cutL bl at_ 100000).length + 1) cb) = W5 := ⟨_, rfl⟩
    rw [hW5] at HO5
    rw [hW5]
    clear hW5 o2 o5 of5
    have o2 := HO5.out.box.c2
    have o8 := HO5.out.c8.c2
    have hl5 := HO5.out.box.lt
    obtain ⟨vc, wd, hrun3, hown3, hg3⟩ := run_append_src (P := Tryd.prog) W5 (wc.heap.size + 1) 39 39 56 i0 (.agg #[.int .i64 0, .string ⟨#[]⟩]) 2 24 Tryd.underlying39 hi hz0 hz1 hz2 rfl (by decide) (.slice pb ((cutL bl at_ 100000).length + 1) cb) _ _ HO5.out.row p2 (cutL bl 0 (at_ + 1)).length c2 (blkRows (cutL bl 0 (at_ + 1))).flatten (src_at HO5.out.r2.1) HN2.out (by rw [List.length_append]; unfold maxLen; simp only [List.length_singleton]; omega) (by rw [List.length_append]; simp only [List.length_singleton]; omega) (by omega)
    rw [← blkRows_cat, ← List.length_append] at hown3
    obtain ⟨LL, hLL⟩ : ∃ LL, cutL bl at_ 100000 ++ [(⟨at_, s⟩ : BlkD)] ++ cutL bl 0 (at_ + 1) = LL := ⟨_, rfl⟩
    rw [hLL] at hown3
    have HLL := Lib.hid hLL
    clear hLL
    obtain ⟨pd, cd, hvd, _, _⟩ := src_of_row hown3
    subst hvd
    have HR3 := Lib.hid hrun3
    have HO6 := Lib.hid (HO5.out.step hg3 hown3)
    have HB6 := Lib.hid (HO5.out.box.grown hg3 (fun e => by have := (HO5.out.row.lt _ e.symm).1; omega))
    have o6 := HB6.out.c2; have of6 := HB6.out.f2
    clear hown3 hg3 hrun3
    go_upto_region 6 with ((at_builtin; refine Lib.wpList_append_run _ rfl _ _ _ _ rfl _ _ rfl rfl _ _ HR3.out ?_))
    obtain ⟨W6, hW6⟩ : ∃ W6, wd.setCell ⟨wc.heap.size, 2, none⟩ (.slice pd LL.length cd) = W6 := ⟨_, rfl⟩
    rw [hW6] at HO6
    rw [hW6]
    clear hW6 o2 o8 o6 of6
    have o0 := HO6.out.box.c0; have o1 := HO6.out.box.c1; have o2 := HO6.out.box.c2
    have r0 := HO6.out.res.c0; have r1 := HO6.out.res.c1; have r2 := HO6.out.res.c2; have s0 := HO6.out.res.f0; have s1 := HO6.out.res.f1; have s2 := HO6.out.res.f2
    have hlr := HO6.out.res.lt; have hlo := HO6.out.box.lt
    go_wp2_with fail
    rw [HLL.out]
    refine bodyPost_ret (v := .agg #[.int .i64 id, .int .i64 sz, .slice pd LL.length cd]) (by simp [results, Tryd.results34, go_sem, r0, r1, r2]) rfl ⟨_, rfl, ?_, ?_⟩
    · have := HO6.out.row
      have hl := HO6.out.lt
      exact ow_mono (show w.heap.size ≤ wc.heap.size + 1 by omega) (ownsRow_setCell_below (ownsRow_setCell_below (ownsRow_setCell_below this (by show w.heap.size + 1 < _; omega) _) (by show w.heap.size + 1 < _; omega) _) (by show w.heap.size + 1 < _; omega) _)
    · exact ((HO6.out.old.setCell (by show w.heap.size ≤ w.heap.size + 1; omega) _).setCell (by show w.heap.size ≤ w.heap.size + 1; omega) _).setCell (by show w.heap.size ≤ w.heap.size + 1; omega) _
end Go.Proofs.YtgabifkechofnaaDoor
