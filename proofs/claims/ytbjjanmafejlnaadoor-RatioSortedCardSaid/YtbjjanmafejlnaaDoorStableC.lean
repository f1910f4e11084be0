/- The walk of symMerge, the middle way: by rotation and recursion. At most 1000 elements. -/
import Derived.Test.YtbjjanmafejlnaaDoorStableB
import Derived.Deep.DeepCutAuto
namespace Go.Proofs.YtbjjanmafejlnaaDoor
open Go.RowKit Go.Sort Go.Lib Mg

section
variable {N : Nat} [Inhabited (Fin N)] {w0 : World} {blk bx : Nat} {cf : Fin N → Fin N → Int} {T : Fin N → Fin N → Prop}

/-- what symMerge does of runs shorter than L -/
def SymIH (T : Fin N → Fin N → Prop) (w0 : World) (blk bx cap L : Nat) : Prop :=
  ∀ (d : Array (Fin N)) (m0 a m b : Nat), d.size = N → b - a < L → a < m → m < b → b ≤ N → SortedF T (fun k => d[k]!) a m → SortedF T (fun k => d[k]!) m b →
    (∀ i j, a ≤ i → i < m → m ≤ j → j < b → (d[i]!).val < (d[j]!).val) →
    Calls Tryd.prog 61 #[.slice (some ⟨blk, 0, none⟩) N cap, .int .i64 a, .int .i64 m, .int .i64 b, .func (.func 33) #[] #[.pointer (some ⟨bx, 0, none⟩)]] (rowW w0 blk d m0) fun e w' =>
      e = .returned (.tuple #[]) ∧ ∃ r m', Merged T (fun k => d[k]!) r a b ∧ w' = rowW w0 blk r m'

theorem merged_join {d r r2 r3 : Array (Fin N)} {a s m e mid b : Nat} (h1 : a ≤ s) (h2 : s ≤ m) (h3 : m ≤ e) (h4 : e ≤ b) (h5 : a ≤ mid) (h6 : mid ≤ b) (hrot : (fun k => r[k]!) = rotF (fun k => d[k]!) s m e)
    (hh : Halves T (fun k => d[k]!) (rotF (fun k => d[k]!) s m e) a s m e mid b) (hl : Merged T (fun k => r[k]!) r2 a mid) (hr : Merged T (fun k => r2[k]!) r3 mid b) : Merged T (fun k => d[k]!) r3 a b := by
  obtain ⟨l1, l2, l3, l4⟩ := hl
  obtain ⟨r1, r2', r3', r4⟩ := hr
  have lo : ∀ k, a ≤ k → k < mid → ∃ k', a ≤ k' ∧ k' < mid ∧ r3[k]! = rotF (fun k => d[k]!) s m e k' := by
    intro k k1 k2
    obtain ⟨k', p1, p2, p3⟩ := l3 k k1 k2
    exact ⟨k', p1, p2, (r4 k (by omega)).trans (p3.trans (congrFun hrot k'))⟩
  have hi : ∀ k, mid ≤ k → k < b → ∃ k', mid ≤ k' ∧ k' < b ∧ r3[k]! = rotF (fun k => d[k]!) s m e k' := by
    intro k k1 k2
    obtain ⟨k', p1, p2, p3⟩ := r3' k k1 k2
    exact ⟨k', p1, p2, p3.trans ((l4 k' (by omega)).trans (congrFun hrot k'))⟩
  refine ⟨r1, sorted_join T _ a mid b ?_ r2' ?_, ?_, ?_⟩
  · intro i j i1 i2 i3
    show T r3[i]! r3[j]!
    rw [show r3[i]! = r2[i]! from r4 i (by omega), show r3[j]! = r2[j]! from r4 j (by omega)]
    exact l2 i j i1 i2 i3
  · intro k l k1 k2 k3 k4
    show T r3[k]! r3[l]!
    obtain ⟨k', p1, p2, p3⟩ := lo k k1 k2
    obtain ⟨l', q1, q2, q3⟩ := hi l k3 k4
    rw [p3, q3]
    exact hh.cross k' l' p1 p2 q1 q2
  · intro k k1 k2
    by_cases c : k < mid
    · obtain ⟨k', p1, p2, p3⟩ := lo k k1 c
      rw [p3]
      by_cases c2 : k' < s
      · obtain ⟨z, z1, z2, z3⟩ := hh.l1 k' p1 c2; exact ⟨z, by omega, by omega, z3⟩
      · obtain ⟨z, z1, z2, z3⟩ := hh.r1 k' (by omega) p2; exact ⟨z, by omega, by omega, z3⟩
    · obtain ⟨k', p1, p2, p3⟩ := hi k (by omega) k2
      rw [p3]
      by_cases c2 : k' < e
      · obtain ⟨z, z1, z2, z3⟩ := hh.l2 k' p1 c2; exact ⟨z, by omega, by omega, z3⟩
      · obtain ⟨z, z1, z2, z3⟩ := hh.r2 k' (by omega) p2; exact ⟨z, by omega, by omega, z3⟩
  · intro k hk
    exact (r4 k (by omega)).trans ((l4 k (by omega)).trans ((congrFun hrot k).trans (rot_out _ (by omega) (by omega))))

set_option maxRecDepth 100000 in
set_option maxHeartbeats 2000000 in
theorem sym_main (E : MEnv N w0 blk bx cf T) (cap L : Nat) (IH : SymIH T w0 blk bx cap L) (d : Array (Fin N)) (hd : d.size = N) (m0 a m b : Nat) (hL : b - a ≤ L) (h1 : a + 1 < m) (h2 : m + 1 < b) (h3 : b ≤ N)
    (hl : SortedF T (fun k => d[k]!) a m) (hr : SortedF T (fun k => d[k]!) m b) (hx : ∀ i j, a ≤ i → i < m → m ≤ j → j < b → (d[i]!).val < (d[j]!).val) :
    Calls Tryd.prog 61 #[.slice (some ⟨blk, 0, none⟩) N cap, .int .i64 a, .int .i64 m, .int .i64 b, .func (.func 33) #[] #[.pointer (some ⟨bx, 0, none⟩)]] (rowW w0 blk d m0) fun e w' =>
      e = .returned (.tuple #[]) ∧ ∃ r m', Merged T (fun k => d[k]!) r a b ∧ w' = rowW w0 blk r m' := by
  have hN := E.env.small
  have HE := Lib.hid E
  have HIH := Lib.hid IH
  have HD := Lib.hid hd; have HL := Lib.hid hl; have HR := Lib.hid hr; have HX := Lib.hid hx
  clear E IH hd hl hr hx
  have t0 : ((m : Int) - (a : Int) == 1) = false := by simp; omega
  have t1 : ((b : Int) - (m : Int) == 1) = false := by simp; omega
  obtain ⟨mid, hmid⟩ : ∃ mid, mid = (a + b) / 2 := ⟨_, rfl⟩
  have m1 : a + b ≤ 2 * mid + 1 := by omega
  have m2 : 2 * mid ≤ a + b := by omega
  have HM := Lib.hid hmid
  obtain ⟨s0, hs0⟩ : ∃ s0, s0 = if mid < m then mid + m - b else a := ⟨_, rfl⟩
  obtain ⟨r0, hr0⟩ : ∃ r0, r0 = if mid < m then mid else m := ⟨_, rfl⟩
  have q1 : a ≤ s0 ∧ s0 ≤ r0 ∧ r0 ≤ m ∧ r0 ≤ mid := by rw [hs0, hr0]; split <;> omega
  have hq : (mid < m ∧ s0 = mid + m - b ∧ r0 = mid) ∨ (m ≤ mid ∧ s0 = a ∧ r0 = m) := by
    rw [hs0, hr0]; split
    · exact .inl ⟨by omega, rfl, rfl⟩
    · exact .inr ⟨by omega, rfl, rfl⟩
  have HQ := Lib.hid hq; clear hq
  have HS0 := Lib.hid hs0; have HR0 := Lib.hid hr0
  clear hmid hs0 hr0
  generalize hW : rowW w0 blk d m0 = W
  have HW := Lib.hid hW; clear hW
  go_enter Tryd.func61, Tryd.ntmps61
  go_upto_if 140 with (fail)
  rw [show ((a : Int) + (b : Int)) / 2 = (mid : Int) from by rw [HM.out]; omega]
  go_cut [20, 21] (fun v20 v21 wx => v20 = .int .i64 (s0 : Nat) ∧ v21 = .int .i64 (r0 : Nat) ∧ wx = W)
  case first =>
    by_cases hlt : mid < m
    · have e1 : s0 = mid + m - b := by rw [HS0.out, if_pos hlt]
      have e2 : r0 = mid := by rw [HR0.out, if_pos hlt]
      have E1 := Lib.hid e1; have E2 := Lib.hid e2
      clear e1 e2
      have g1 : (mid : Int) < (m : Int) := by omega
      go_wp2_with fail
      go_meet
      case rel => exact ⟨by rw [E1.out, Int.ofNat_sub (by omega)]; simp, by rw [E2.out], rfl⟩
    · have e1 : s0 = a := by rw [HS0.out, if_neg hlt]
      have e2 : r0 = m := by rw [HR0.out, if_neg hlt]
      have E1 := Lib.hid e1; have E2 := Lib.hid e2
      clear e1 e2
      have g1 : ¬ (mid : Int) < (m : Int) := by omega
      go_wp2_with fail
      go_meet
      case rel => exact ⟨by rw [E1.out], by rw [E2.out], rfl⟩
  case rest => as_aux_lemma =>
    obtain ⟨rfl, rfl, hwc⟩ := hcut
    have HWC := Lib.hid hwc
    clear hwc
    go_wp2_with fail
    go_loopw [20, 21] (fun vi vj wr => ∃ (s t m' : Nat), vi = .int .i64 s ∧ vj = .int .i64 t ∧ s0 ≤ s ∧ s ≤ t ∧ t ≤ r0 ∧ (∀ c, s0 ≤ c → c < s → T d[c]! d[mid + m - 1 - c]!) ∧ (∀ c, t ≤ c → c < r0 → T d[mid + m - 1 - c]! d[c]!) ∧ wr = rowW w0 blk d m') (fun vi vj _ => (intOf vj).toNat - (intOf vi).toNat)
    case atStart => exact ⟨s0, r0, m0, rfl, rfl, by omega, by omega, by omega, fun k h h' => by omega, fun k h h' => by omega, by rw [HWC.out, ← HW.out]⟩
    case round =>
      obtain ⟨s, t, m', rfl, rfl, hs1, hst, ht1, hlo, hhi, hwr⟩ := hrel
      have HLO := Lib.hid hlo; have HHI := Lib.hid hhi; have HWR := Lib.hid hwr
      clear hlo hhi hwr
      by_cases hlt : s < t
      · have e2 : (s + t) / 2 < t := by omega
        have e1 : s ≤ (s + t) / 2 := by omega
        go_wp2_with fail
        rw [show ((s : Int) + (t : Int)) / 2 = (((s + t) / 2 : Nat) : Int) from by omega]
        generalize (s + t) / 2 = c at *
        have hcm : c < m := by omega
        have hca : a ≤ c := by omega
        have hpc : m ≤ mid + m - 1 - c ∧ mid + m - 1 - c < b := by
          rcases HQ.out with ⟨z1, z2, z3⟩ | ⟨z1, z2, z3⟩ <;> omega
        have c1 := HE.out.env.cell d HD.out m' (mid + m - 1 - c) (by omega)
        have c2 := HE.out.env.cell d HD.out m' c (by omega)
        rw [← HWR.out] at c1 c2
        have hc := HE.out.cmpW d HD.out m' wr HWR.out d[mid + m - 1 - c]! d[c]!
        have HC := Lib.hid hc
        clear hc
        have k1 : (c : Int) < (N : Int) := by omega
        have k2 : (mid : Int) + (m : Int) - 1 - (c : Int) < (N : Int) := by omega
        have k3 : (0 : Int) ≤ (mid : Int) + (m : Int) - 1 - (c : Int) := by omega
        have k4 : ((mid : Int) + (m : Int) - 1 - (c : Int)).toNat = mid + m - 1 - c := by omega
        have k5 : IntKind.i64.wrap ((mid : Int) + (m : Int) - 1 - (c : Int)) = (mid : Int) + (m : Int) - 1 - (c : Int) := IntWalk.i64_in _ (by omega)
        have hxy := HX.out c (mid + m - 1 - c) hca hcm hpc.1 hpc.2
        have hy := HE.out.yes d[c]! d[mid + m - 1 - c]! hxy
        have hn := HE.out.no d[c]! d[mid + m - 1 - c]! hxy
        have HY := Lib.hid hy; have HNO := Lib.hid hn; clear hy hn hxy
        have HPC := Lib.hid hpc; clear hpc
        by_cases hlt0 : cf d[mid + m - 1 - c]! d[c]! < 0
        · have hb : decide (cf d[mid + m - 1 - c]! d[c]! < 0) = true := by simpa using hlt0
          have hT := HY.out hlt0
          have HT := Lib.hid hT
          clear HY HNO hT
          generalize cf d[mid + m - 1 - c]! d[c]! = cv at *
          generalize (d[mid + m - 1 - c]!).val = xv at *
          generalize (d[c]!).val = yv at *
          go_quiet ((go_at_call 33; exact Calls.quiet_of (HC.out _)))
          clear k4 k5
          go_wp2_with fail
          refine ⟨⟨s, c, m' + nq, rfl, rfl, by omega, by omega, by omega, HLO.out, ?_, by rw [HWR.out, rowW_drewN]⟩, by simp [intOf]; omega⟩
          intro k g1 g2
          by_cases e : k = c
          · rw [e]; exact HT.out
          · have p1 := HPC.out
            exact HE.out.tr _ _ _ (HR.out (mid + m - 1 - k) (mid + m - 1 - c) (by rcases HQ.out with ⟨z1, z2, z3⟩ | ⟨z1, z2, z3⟩ <;> omega) (by omega) (by omega)) (HE.out.tr _ _ _ HT.out (HL.out c k (by omega) (by omega) (by omega)))
        · have hb : decide (cf d[mid + m - 1 - c]! d[c]! < 0) = false := by simpa using hlt0
          have hT := HNO.out hlt0
          have HT := Lib.hid hT
          clear HY HNO hT
          generalize cf d[mid + m - 1 - c]! d[c]! = cv at *
          generalize (d[mid + m - 1 - c]!).val = xv at *
          generalize (d[c]!).val = yv at *
          go_quiet ((go_at_call 33; exact Calls.quiet_of (HC.out _)))
          clear k4 k5
          go_wp2_with fail
          refine ⟨⟨c + 1, t, m' + nq, by go_num, rfl, by omega, by omega, by omega, ?_, HHI.out, by rw [HWR.out, rowW_drewN]⟩, by simp [intOf]; omega⟩
          intro k g1 g2
          by_cases e : k = c
          · rw [e]; exact HT.out
          · have p1 := HPC.out
            exact HE.out.tr _ _ _ (HE.out.tr _ _ _ (HL.out k c (by omega) (by omega) (by omega)) HT.out) (HR.out (mid + m - 1 - c) (mid + m - 1 - k) (by omega) (by omega) (by rcases HQ.out with ⟨z1, z2, z3⟩ | ⟨z1, z2, z3⟩ <;> omega))
      · obtain rfl : s = t := by omega
        obtain ⟨e, he⟩ : ∃ e, e + s = mid + m := ⟨mid + m - s, by omega⟩
        have he2 : m ≤ e ∧ e ≤ b ∧ mid ≤ e := by
          rcases HQ.out with ⟨z1, z2, z3⟩ | ⟨z1, z2, z3⟩ <;> omega
        have hh := halves T HE.out.tr (fun k => d[k]!) a s m e mid b (by omega) (by omega) he2.1 he2.2.1 (by omega) (by omega) he2.2.2 HL.out HR.out
          (fun c g1 g2 g3 => by
            by_cases g4 : s0 ≤ s - 1
            · have := HLO.out (s - 1) g4 (by omega)
              rw [show mid + m - 1 - (s - 1) = e from by omega] at this
              by_cases g5 : c = s - 1
              · rw [g5]; exact this
              · exact HE.out.tr _ _ _ (HL.out c (s - 1) g1 (by omega) (by omega)) this
            · exfalso; rcases HQ.out with ⟨z1, z2, z3⟩ | ⟨z1, z2, z3⟩ <;> omega)
          (fun g1 g2 => by
            by_cases g4 : s < r0
            · have := HHI.out s (by omega) g4
              rw [show mid + m - 1 - s = e - 1 from by omega] at this
              exact this
            · exfalso; rcases HQ.out with ⟨z1, z2, z3⟩ | ⟨z1, z2, z3⟩ <;> omega)
        have HH := Lib.hid hh
        clear hh
        have hes : (mid : Int) + (m : Int) - (s : Int) = (e : Int) := by omega
        have HES := Lib.hid hes
        have HEE := Lib.hid he
        clear hes he
        obtain ⟨he3, he4, he5⟩ := he2
        go_upto_region 39 with (fail)
        rw [HES.out]
        go_cut [185] (fun v wx => v = .bool (decide (s < m ∧ m < e)) ∧ wx = wr)
        case first =>
          by_cases g1 : s < m
          · by_cases g2 : m < e
            · have d1 : ((s : Int) < (m : Int)) := by omega
              have d2 : ((m : Int) < (e : Int)) := by omega
              go_wp2_with fail
              go_meet
              case rel => exact ⟨by simp [g1, g2], rfl⟩
            · have d1 : ((s : Int) < (m : Int)) := by omega
              have d2 : ¬ ((m : Int) < (e : Int)) := by omega
              go_wp2_with fail
              go_meet
              case rel => exact ⟨by simp [g1, g2], rfl⟩
          · have d1 : ¬ ((s : Int) < (m : Int)) := by omega
            go_wp2_with fail
            go_meet
            case rel => exact ⟨by simp [g1], rfl⟩
        case rest => as_aux_lemma =>
          obtain ⟨rfl, hwc⟩ := hcut
          have HWC2 := Lib.hid hwc
          clear hwc
          go_upto_if 185 with (fail)
          go_cut [] (fun wx => ∃ (r : Array (Fin N)) (m1 : Nat), r.size = N ∧ (fun k => r[k]!) = rotF (fun k => d[k]!) s m e ∧ wx = rowW w0 blk r m1)
          case first =>
            by_cases g : s < m ∧ m < e
            · have d1 : decide (s < m ∧ m < e) = true := by simpa using g
              go_wp2_with fail
              rw [HWC2.out, HWR.out]
              refine (rotate_any HE.out.env cap _ d HD.out m' s m e g.1 g.2 (by omega)).mono ?_
              rintro e1 w1 ⟨rfl, r, m1, hr, hw⟩
              have HRO := Lib.hid hr; have HW1 := Lib.hid hw
              clear hr hw
              go_wp2_with fail
              go_meet
              case rel => exact ⟨r, m1, by rw [HRO.out.1, HD.out], HRO.out.2, HW1.out⟩
            · have d1 : decide (s < m ∧ m < e) = false := by simpa using g
              go_wp2_with fail
              go_meet
              case rel =>
                refine ⟨d, m', HD.out, ?_, by rw [HWC2.out, HWR.out]⟩
                by_cases g1 : s < m
                · obtain rfl : m = e := by omega
                  rw [rot_id_right]
                · obtain rfl : s = m := by omega
                  rw [rot_id_left]
          case rest => as_aux_lemma =>
            obtain ⟨r, m1, hr, hrot, hwc⟩ := hcut
            have HRS := Lib.hid hr; have HROT := Lib.hid hrot; have HW1 := Lib.hid hwc
            clear hr hrot hwc
            go_upto_region 41 with (fail)
            go_cut [199] (fun v wx => v = .bool (decide (a < s ∧ s < mid)) ∧ wx = rowW w0 blk r m1)
            case first =>
              by_cases g1 : a < s
              · by_cases g2 : s < mid
                · have d1 : ((a : Int) < (s : Int)) := by omega
                  have d2 : ((s : Int) < (mid : Int)) := by omega
                  go_wp2_with fail
                  go_meet
                  case rel => exact ⟨by simp [g1, g2], HW1.out⟩
                · have d1 : ((a : Int) < (s : Int)) := by omega
                  have d2 : ¬ ((s : Int) < (mid : Int)) := by omega
                  go_wp2_with fail
                  go_meet
                  case rel => exact ⟨by simp [g1, g2], HW1.out⟩
              · have d1 : ¬ ((a : Int) < (s : Int)) := by omega
                go_wp2_with fail
                go_meet
                case rel => exact ⟨by simp [g1], HW1.out⟩
            case rest => as_aux_lemma =>
              obtain ⟨rfl, hwc⟩ := hcut
              have HWC3 := Lib.hid hwc
              clear hwc
              go_upto_if 199 with (fail)
              go_cut [] (fun wx => ∃ (r2 : Array (Fin N)) (m2 : Nat), Merged T (fun k => r[k]!) r2 a mid ∧ wx = rowW w0 blk r2 m2)
              case first =>
                by_cases g : a < s ∧ s < mid
                · have d1 : decide (a < s ∧ s < mid) = true := by simpa using g
                  go_wp2_with fail
                  rw [HWC3.out]
                  refine (HIH.out r m1 a s mid HRS.out (by omega) g.1 g.2 (by omega) ?_ ?_ ?_).mono ?_
                  · rw [HROT.out]; exact HH.out.s1
                  · rw [HROT.out]; exact HH.out.s2
                  · intro i j i1 i2 i3 i4
                    obtain ⟨i', p1, p2, p3⟩ := HH.out.l1 i i1 i2
                    obtain ⟨j', q1, q2, q3⟩ := HH.out.r1 j i3 i4
                    rw [congrFun HROT.out i, congrFun HROT.out j, p3, q3]
                    exact HX.out i' j' p1 p2 q1 q2
                  · rintro e1 w1 ⟨rfl, r2, m2, hm, hw⟩
                    have HM2 := Lib.hid hm; have HW2 := Lib.hid hw
                    clear hm hw
                    go_wp2_with fail
                    go_meet
                    case rel => exact ⟨r2, m2, HM2.out, HW2.out⟩
                · have d1 : decide (a < s ∧ s < mid) = false := by simpa using g
                  go_wp2_with fail
                  go_meet
                  case rel =>
                    refine ⟨r, m1, ⟨HRS.out, ?_, fun k k1 k2 => ⟨k, k1, k2, rfl⟩, fun k _ => rfl⟩, HWC3.out⟩
                    rw [HROT.out]
                    by_cases g1 : a < s
                    · rw [show mid = s from by omega]; exact HH.out.s1
                    · obtain rfl : a = s := by omega
                      exact HH.out.s2
              case rest => as_aux_lemma =>
                obtain ⟨r2, m2, hm2, hwc⟩ := hcut
                have HM2 := Lib.hid hm2; have HW2 := Lib.hid hwc
                clear hm2 hwc
                go_upto_region 43 with (fail)
                go_cut [213] (fun v wx => v = .bool (decide (mid < e ∧ e < b)) ∧ wx = rowW w0 blk r2 m2)
                case first =>
                  by_cases g1 : mid < e
                  · by_cases g2 : e < b
                    · have d1 : ((mid : Int) < (e : Int)) := by omega
                      have d2 : ((e : Int) < (b : Int)) := by omega
                      go_wp2_with fail
                      go_meet
                      case rel => exact ⟨by simp [g1, g2], HW2.out⟩
                    · have d1 : ((mid : Int) < (e : Int)) := by omega
                      have d2 : ¬ ((e : Int) < (b : Int)) := by omega
                      go_wp2_with fail
                      go_meet
                      case rel => exact ⟨by simp [g1, g2], HW2.out⟩
                  · have d1 : ¬ ((mid : Int) < (e : Int)) := by omega
                    go_wp2_with fail
                    go_meet
                    case rel => exact ⟨by simp [g1], HW2.out⟩
                case rest => as_aux_lemma =>
                  obtain ⟨rfl, hwc⟩ := hcut
                  have HWC4 := Lib.hid hwc
                  clear hwc
                  by_cases g : mid < e ∧ e < b
                  · have d1 : decide (mid < e ∧ e < b) = true := by simpa using g
                    go_wp2_with fail
                    rw [HWC4.out]
                    have hsame : ∀ k, mid ≤ k → r2[k]! = rotF (fun k => d[k]!) s m e k := fun k hk => (HM2.out.2.2.2 k (by omega)).trans (congrFun HROT.out k)
                    refine (HIH.out r2 m2 mid e b HM2.out.1 (by omega) g.1 g.2 (by omega) ?_ ?_ ?_).mono ?_
                    · intro i j i1 i2 i3
                      show T r2[i]! r2[j]!
                      rw [hsame i i1, hsame j (by omega)]; exact HH.out.s3 i j i1 i2 i3
                    · intro i j i1 i2 i3
                      show T r2[i]! r2[j]!
                      rw [hsame i (by omega), hsame j (by omega)]; exact HH.out.s4 i j i1 i2 i3
                    · intro i j i1 i2 i3 i4
                      obtain ⟨i', p1, p2, p3⟩ := HH.out.l2 i i1 i2
                      obtain ⟨j', q1, q2, q3⟩ := HH.out.r2 j i3 i4
                      rw [hsame i i1, hsame j (by omega), p3, q3]
                      exact HX.out i' j' p1 p2 q1 q2
                    · rintro e1 w1 ⟨rfl, r3, m3, hm, hw⟩
                      have HM3 := Lib.hid hm; have HW3 := Lib.hid hw
                      clear hm hw
                      go_wp2_with fail
                      go_end0
                      exact ⟨rfl, r3, m3, merged_join (by omega) (by omega) (by omega) (by omega) (by omega) (by omega) HROT.out HH.out HM2.out HM3.out, HW3.out⟩
                  · have d1 : decide (mid < e ∧ e < b) = false := by simpa using g
                    go_wp2_with fail
                    go_end0
                    refine ⟨rfl, r2, m2, merged_join (by omega) (by omega) (by omega) (by omega) (by omega) (by omega) HROT.out HH.out HM2.out ⟨HM2.out.1, ?_, fun k k1 k2 => ⟨k, k1, k2, rfl⟩, fun k _ => rfl⟩, HWC4.out⟩
                    have hsame : ∀ k, mid ≤ k → r2[k]! = rotF (fun k => d[k]!) s m e k := fun k hk => (HM2.out.2.2.2 k (by omega)).trans (congrFun HROT.out k)
                    intro i j i1 i2 i3
                    show T r2[i]! r2[j]!
                    rw [hsame i i1, hsame j (by omega)]
                    by_cases g1 : mid < e
                    · exact HH.out.s3 i j i1 i2 (by omega)
                    · exact HH.out.s4 i j (by omega) i2 i3
end
end Go.Proofs.YtbjjanmafejlnaaDoor
