/- The walk of symMerge: two sorted runs side by side become one, in the stable order. At most 1000 elements. -/
import Derived.Test.YtbjjanmafejlnaaDoorStableP
namespace Go.Proofs.YtbjjanmafejlnaaDoor
open Go.RowKit Go.Sort Go.Lib Mg

structure MEnv (N : Nat) [Inhabited (Fin N)] (w0 : World) (blk bx : Nat) (cf : Fin N → Fin N → Int) (T : Fin N → Fin N → Prop) : Prop where
  env : SEnv N w0 blk
  cmp : ∀ (X : Array (Fin N)) (m : Nat) (x y : Fin N), X.size = N → Calls Tryd.prog 33 #[.int .i64 (x.val : Nat), .int .i64 (y.val : Nat), .pointer (some ⟨bx, 0, none⟩)] (rowW w0 blk X m) fun e w' => e = .returned (.int .i64 (cf x y)) ∧ ∃ q, w' = (rowW w0 blk X m).drewN q
  tr : ∀ x y z, T x y → T y z → T x z
  yes : ∀ x y : Fin N, x.val < y.val → cf y x < 0 → T y x
  no : ∀ x y : Fin N, x.val < y.val → ¬ cf y x < 0 → T x y

section
variable {N : Nat} [Inhabited (Fin N)] {w0 : World} {blk bx : Nat} {cf : Fin N → Fin N → Int} {T : Fin N → Fin N → Prop}

def Merged (T : Fin N → Fin N → Prop) (D : Nat → Fin N) (r : Array (Fin N)) (a b : Nat) : Prop :=
  r.size = N ∧ SortedF T (fun k => r[k]!) a b ∧ (∀ k, a ≤ k → k < b → ∃ k', a ≤ k' ∧ k' < b ∧ r[k]! = D k') ∧ ∀ k, ¬ (a ≤ k ∧ k < b) → r[k]! = D k

def Cmp (bx : Nat) : Value := .func (.func 33) #[] #[.pointer (some ⟨bx, 0, none⟩)]

theorem rowW_drewN (d : Array (Fin N)) (m n : Nat) : (rowW w0 blk d m).drewN n = rowW w0 blk d (m + n) := World.drewN_drewN _ _ _
theorem MEnv.cmpW (E : MEnv N w0 blk bx cf T) (d : Array (Fin N)) (hd : d.size = N) (m : Nat) (wr : World) (hwr : wr = rowW w0 blk d m) (x y : Fin N) (n : Nat) :
    Calls Tryd.prog 33 #[.int .i64 (x.val : Nat), .int .i64 (y.val : Nat), .pointer (some ⟨bx, 0, none⟩)] (wr.drewN n) fun e w' => e = .returned (.int .i64 (cf x y)) ∧ ∃ q, w' = (wr.drewN n).drewN q := by
  rw [hwr, rowW_drewN]; exact E.cmp d (m + n) x y hd

set_option maxRecDepth 100000 in
set_option maxHeartbeats 2000000 in
theorem sym_left (E : MEnv N w0 blk bx cf T) (cap : Nat) (d : Array (Fin N)) (hd : d.size = N) (m0 a b : Nat) (h1 : a + 1 < b) (h2 : b ≤ N)
    (hs : SortedF T (fun k => d[k]!) (a + 1) b) (hx : ∀ j, a + 1 ≤ j → j < b → (d[a]!).val < (d[j]!).val) :
    Calls Tryd.prog 61 #[.slice (some ⟨blk, 0, none⟩) N cap, .int .i64 a, .int .i64 ((a : Int) + 1), .int .i64 b, .func (.func 33) #[] #[.pointer (some ⟨bx, 0, none⟩)]] (rowW w0 blk d m0) fun e w' =>
      e = .returned (.tuple #[]) ∧ ∃ r m', Merged T (fun k => d[k]!) r a b ∧ w' = rowW w0 blk r m' := by
  have hN := E.env.small
  have HE := Lib.hid E
  have HD := Lib.hid hd; have HS := Lib.hid hs; have HX := Lib.hid hx
  clear E hd hs hx
  have t1 : ((a : Int) + 1 - (a : Int) == 1) = true := by simp; omega
  go_enter Tryd.func61, Tryd.ntmps61
  go_wp2_with fail
  go_loopw [10, 11] (fun vi vj wr => ∃ (i j m' : Nat), vi = .int .i64 i ∧ vj = .int .i64 j ∧ a + 1 ≤ i ∧ i ≤ j ∧ j ≤ b ∧ (∀ k, a + 1 ≤ k → k < i → T d[k]! d[a]!) ∧ (∀ k, j ≤ k → k < b → T d[a]! d[k]!) ∧ wr = rowW w0 blk d m') (fun vi vj _ => (intOf vj).toNat - (intOf vi).toNat)
  case atStart => exact ⟨a + 1, b, m0, by go_num, rfl, by omega, by omega, by omega, fun k h h' => by omega, fun k h h' => by omega, rfl⟩
  case round =>
    obtain ⟨i, j, m', rfl, rfl, hi1, hij, hjb, hlo, hhi, hwr⟩ := hrel
    have HLO := Lib.hid hlo; have HHI := Lib.hid hhi; have HW := Lib.hid hwr
    clear hlo hhi
    by_cases hlt : i < j
    · have e2 : (i + j) / 2 < j := by omega
      have e1 : i ≤ (i + j) / 2 := by omega
      clear hwr
      go_wp2_with fail
      rw [show ((i : Int) + (j : Int)) / 2 = (((i + j) / 2 : Nat) : Int) from by omega]
      generalize (i + j) / 2 = h at *
      have c1 := HE.out.env.cell d HD.out m' h (by omega)
      have c2 := HE.out.env.cell d HD.out m' a (by omega)
      rw [← HW.out] at c1 c2
      have hc := HE.out.cmpW d HD.out m' wr HW.out d[h]! d[a]!
      have HC := Lib.hid hc
      have k1 : (h : Int) < (N : Int) := by omega
      have k2 : (a : Int) < (N : Int) := by omega
      clear hc
      have hxy := HX.out h (by omega) (by omega)
      have hy := HE.out.yes d[a]! d[h]! hxy
      have hn := HE.out.no d[a]! d[h]! hxy
      have HY := Lib.hid hy; have HNO := Lib.hid hn; clear hy hn hxy
      by_cases hlt0 : cf d[h]! d[a]! < 0
      · have hb : decide (cf d[h]! d[a]! < 0) = true := by simpa using hlt0
        have hT := HY.out hlt0
        have HT := Lib.hid hT
        clear HY HNO hT
        generalize cf d[h]! d[a]! = cv at *
        generalize (d[h]!).val = xv at *
        generalize (d[a]!).val = yv at *
        go_quiet ((go_at_call 33; exact Calls.quiet_of (HC.out _)))
        go_wp2_with fail
        refine ⟨⟨h + 1, j, m' + nq, by go_num, rfl, by omega, by omega, hjb, ?_, HHI.out, by rw [HW.out, rowW_drewN]⟩, by simp [intOf]; omega⟩
        intro k g1 g2
        by_cases e : k = h
        · rw [e]; exact HT.out
        · exact HE.out.tr _ _ _ (HS.out k h g1 (by omega) (by omega)) HT.out
      · have hb : decide (cf d[h]! d[a]! < 0) = false := by simpa using hlt0
        have hT := HNO.out hlt0
        have HT := Lib.hid hT
        clear HY HNO hT
        generalize cf d[h]! d[a]! = cv at *
        generalize (d[h]!).val = xv at *
        generalize (d[a]!).val = yv at *
        go_quiet ((go_at_call 33; exact Calls.quiet_of (HC.out _)))
        go_wp2_with fail
        refine ⟨⟨i, h, m' + nq, rfl, rfl, by omega, by omega, by omega, HLO.out, ?_, by rw [HW.out, rowW_drewN]⟩, by simp [intOf]; omega⟩
        intro k g1 g2
        by_cases e : k = h
        · rw [e]; exact HT.out
        · exact HE.out.tr _ _ _ HT.out (HS.out h k (by omega) (by omega) g2)
    · obtain rfl : i = j := by omega
      clear hwr
      go_wp2_with fail
      go_loopw [13] (fun vk wr => ∃ (k m2 : Nat) (r : Array (Fin N)), a ≤ k ∧ k + 1 ≤ i ∧ vk = .int .i64 k ∧ r.size = N ∧ (fun x => r[x]!) = rotF (fun x => d[x]!) a (a + 1) (k + 1) ∧ wr = rowW w0 blk r m2) (fun vk _ => i - (intOf vk).toNat)
      case atStart => exact ⟨a, m', d, by omega, by omega, rfl, HD.out, by rw [show rotF (fun x => d[x]!) a (a + 1) (a + 1) = fun x => d[x]! from rot_id_right _ _ _], HW.out⟩
      case round =>
        rename_i wr1
        obtain ⟨k, m2, r, ha, hk, rfl, hr, hrot, hwr⟩ := hrel
        have HR := Lib.hid hr; have HROT := Lib.hid hrot; have HW2 := Lib.hid hwr
        clear hr hrot
        by_cases hlt : k + 1 < i
        · have c1 := HE.out.env.cell r HR.out m2 k (by omega)
          have c2 := HE.out.env.cell r HR.out m2 (k + 1) (by omega)
          have f1 := HE.out.env.froz r m2 k (by omega)
          have f2 := HE.out.env.froz r m2 (k + 1) (by omega)
          rw [← hwr] at c1 c2 f1 f2
          clear hwr
          generalize hx : (r[k]!).val = x at c1
          generalize hy : (r[k + 1]!).val = y at c2
          have HX1 := Lib.hid hx; have HY1 := Lib.hid hy
          clear hx hy
          have u0 : (k : Int) < (i : Int) - 1 := by omega
          have u1 : (k : Int) < (N : Int) := by omega
          have u2 : (k : Int) + 1 < (N : Int) := by omega
          have n2 : (0 : Int) ≤ (k : Int) + 1 := by omega
          have t2 : ((k : Int) + 1).toNat = k + 1 := by omega
          have s1 : IntKind.i64.wrap ((k : Int) + 1) = (k : Int) + 1 := IntWalk.i64_in _ (by omega)
          go_wp2_with fail
          go_region
          all_goals go_wp2_with fail
          refine ⟨⟨k + 1, m2 + 1, swp r k (k + 1), by omega, by omega, by go_num, by rw [size_swp]; exact HR.out, ?_, ?_⟩, by simp [intOf]; omega⟩
          · rw [show k + 1 + 1 = k + 2 from rfl, ← rot_first _ a k ha, ← HROT.out]
            funext z
            exact swp_at r k (k + 1) z (by rw [HR.out]; omega) (by rw [HR.out]; omega) (by omega)
          · rw [HW2.out, ← HX1.out, ← HY1.out, rowW_swp r m2 k (k + 1) (by rw [HR.out]; omega) (by rw [HR.out]; omega)]
            rfl
        · have d3 : decide ((k : Int) < (i : Int) - 1) = false := by simp; omega
          have d4 : (i : Int) - 1 ≤ (k : Int) := by omega
          clear hwr
          go_wp2_with fail
          refine bodyPost_ret (results_none rfl _ _ _) rfl ?_
          obtain rfl : i = k + 1 := by omega
          refine ⟨rfl, r, m2, ⟨HR.out, ?_, ?_, ?_⟩, HW2.out⟩
          · rw [HROT.out]; exact insert_first T _ a (k + 1) b (by omega) (by omega) HS.out HLO.out HHI.out
          · intro z g1 g2
            have e := congrFun HROT.out z
            simp only [rotF] at e
            by_cases q1 : a ≤ z ∧ z < a + (k + 1 - (a + 1))
            · rw [if_pos q1] at e; exact ⟨_, by omega, by omega, e⟩
            · rw [if_neg q1] at e
              by_cases q2 : a + (k + 1 - (a + 1)) ≤ z ∧ z < k + 1
              · rw [if_pos q2] at e; exact ⟨_, by omega, by omega, e⟩
              · rw [if_neg q2] at e; exact ⟨_, g1, g2, e⟩
          · intro z g1
            have e := congrFun HROT.out z
            rw [e]; exact rot_out _ (by omega) (by omega)

set_option maxRecDepth 100000 in
set_option maxHeartbeats 2000000 in
theorem sym_right (E : MEnv N w0 blk bx cf T) (cap : Nat) (d : Array (Fin N)) (hd : d.size = N) (m0 a m : Nat) (h1 : a + 1 < m) (h2 : m + 1 ≤ N)
    (hs : SortedF T (fun k => d[k]!) a m) (hx : ∀ j, a ≤ j → j < m → (d[j]!).val < (d[m]!).val) :
    Calls Tryd.prog 61 #[.slice (some ⟨blk, 0, none⟩) N cap, .int .i64 a, .int .i64 m, .int .i64 ((m : Int) + 1), .func (.func 33) #[] #[.pointer (some ⟨bx, 0, none⟩)]] (rowW w0 blk d m0) fun e w' =>
      e = .returned (.tuple #[]) ∧ ∃ r m', Merged T (fun k => d[k]!) r a (m + 1) ∧ w' = rowW w0 blk r m' := by
  have hN := E.env.small
  have HE := Lib.hid E
  have HD := Lib.hid hd; have HS := Lib.hid hs; have HX := Lib.hid hx
  clear E hd hs hx
  have t0 : ((m : Int) - (a : Int) == 1) = false := by simp; omega
  have t1 : ((m : Int) + 1 - (m : Int) == 1) = true := by simp; omega
  go_enter Tryd.func61, Tryd.ntmps61
  go_wp2_with fail
  go_loopw [14, 15] (fun vi vj wr => ∃ (i j m' : Nat), vi = .int .i64 i ∧ vj = .int .i64 j ∧ a ≤ i ∧ i ≤ j ∧ j ≤ m ∧ (∀ k, a ≤ k → k < i → T d[k]! d[m]!) ∧ (∀ k, j ≤ k → k < m → T d[m]! d[k]!) ∧ wr = rowW w0 blk d m') (fun vi vj _ => (intOf vj).toNat - (intOf vi).toNat)
  case atStart => exact ⟨a, m, m0, rfl, rfl, by omega, by omega, by omega, fun k h h' => by omega, fun k h h' => by omega, rfl⟩
  case round =>
    obtain ⟨i, j, m', rfl, rfl, hi1, hij, hjb, hlo, hhi, hwr⟩ := hrel
    have HLO := Lib.hid hlo; have HHI := Lib.hid hhi; have HW := Lib.hid hwr
    clear hlo hhi
    by_cases hlt : i < j
    · have e2 : (i + j) / 2 < j := by omega
      have e1 : i ≤ (i + j) / 2 := by omega
      clear hwr
      go_wp2_with fail
      rw [show ((i : Int) + (j : Int)) / 2 = (((i + j) / 2 : Nat) : Int) from by omega]
      generalize (i + j) / 2 = h at *
      have c1 := HE.out.env.cell d HD.out m' h (by omega)
      have c2 := HE.out.env.cell d HD.out m' m (by omega)
      rw [← HW.out] at c1 c2
      have hc := HE.out.cmpW d HD.out m' wr HW.out d[m]! d[h]!
      have HC := Lib.hid hc
      have k1 : (h : Int) < (N : Int) := by omega
      have k2 : (m : Int) < (N : Int) := by omega
      clear hc
      have hxy := HX.out h (by omega) (by omega)
      have hy := HE.out.yes d[h]! d[m]! hxy
      have hn := HE.out.no d[h]! d[m]! hxy
      have HY := Lib.hid hy; have HNO := Lib.hid hn; clear hy hn hxy
      by_cases hlt0 : cf d[m]! d[h]! < 0
      · have hb : decide (cf d[m]! d[h]! < 0) = true := by simpa using hlt0
        have hT := HY.out hlt0
        have HT := Lib.hid hT
        clear HY HNO hT
        generalize cf d[m]! d[h]! = cv at *
        generalize (d[h]!).val = xv at *
        generalize (d[m]!).val = yv at *
        go_quiet ((go_at_call 33; exact Calls.quiet_of (HC.out _)))
        go_wp2_with fail
        refine ⟨⟨i, h, m' + nq, rfl, rfl, by omega, by omega, by omega, HLO.out, ?_, by rw [HW.out, rowW_drewN]⟩, by simp [intOf]; omega⟩
        intro k g1 g2
        by_cases e : k = h
        · rw [e]; exact HT.out
        · exact HE.out.tr _ _ _ HT.out (HS.out h k (by omega) (by omega) g2)
      · have hb : decide (cf d[m]! d[h]! < 0) = false := by simpa using hlt0
        have hT := HNO.out hlt0
        have HT := Lib.hid hT
        clear HY HNO hT
        generalize cf d[m]! d[h]! = cv at *
        generalize (d[h]!).val = xv at *
        generalize (d[m]!).val = yv at *
        go_quiet ((go_at_call 33; exact Calls.quiet_of (HC.out _)))
        go_wp2_with fail
        refine ⟨⟨h + 1, j, m' + nq, by go_num, rfl, by omega, by omega, hjb, ?_, HHI.out, by rw [HW.out, rowW_drewN]⟩, by simp [intOf]; omega⟩
        intro k g1 g2
        by_cases e : k = h
        · rw [e]; exact HT.out
        · exact HE.out.tr _ _ _ (HS.out k h g1 (by omega) (by omega)) HT.out
    · obtain rfl : i = j := by omega
      clear hwr
      go_wp2_with fail
      go_loopw [17] (fun vk wr => ∃ (k m2 : Nat) (r : Array (Fin N)), i ≤ k ∧ k ≤ m ∧ vk = .int .i64 k ∧ r.size = N ∧ (fun x => r[x]!) = rotF (fun x => d[x]!) k m (m + 1) ∧ wr = rowW w0 blk r m2) (fun vk _ => (intOf vk).toNat)
      case atStart => exact ⟨m, m', d, by omega, by omega, rfl, HD.out, by rw [show rotF (fun x => d[x]!) m m (m + 1) = fun x => d[x]! from rot_id_left _ _ _], HW.out⟩
      case round =>
        rename_i wr1
        obtain ⟨k, m2, r, ha, hk, rfl, hr, hrot, hwr⟩ := hrel
        have HR := Lib.hid hr; have HROT := Lib.hid hrot; have HW2 := Lib.hid hwr
        clear hr hrot
        by_cases hlt : i < k
        · obtain ⟨p, rfl⟩ : ∃ p, k = p + 1 := ⟨k - 1, by omega⟩
          have c1 := HE.out.env.cell r HR.out m2 p (by omega)
          have c2 := HE.out.env.cell r HR.out m2 (p + 1) (by omega)
          have f1 := HE.out.env.froz r m2 p (by omega)
          have f2 := HE.out.env.froz r m2 (p + 1) (by omega)
          rw [← hwr] at c1 c2 f1 f2
          clear hwr
          generalize hx : (r[p]!).val = x at c1
          generalize hy : (r[p + 1]!).val = y at c2
          have HX1 := Lib.hid hx; have HY1 := Lib.hid hy
          clear hx hy
          have u0 : (i : Int) < (p : Int) + 1 := by omega
          have u1 : (p : Int) < (N : Int) := by omega
          have u2 : (p : Int) + 1 < (N : Int) := by omega
          have n2 : (0 : Int) ≤ (p : Int) + 1 := by omega
          have t2 : ((p : Int) + 1).toNat = p + 1 := by omega
          have s1 : IntKind.i64.wrap (p : Int) = (p : Int) := IntWalk.i64_in _ (by omega)
          go_wp2_with fail
          go_region
          all_goals go_wp2_with fail
          refine ⟨⟨p, m2 + 1, swp r (p + 1) p, by omega, by omega, by go_num, by rw [size_swp]; exact HR.out, ?_, ?_⟩, by simp [intOf]⟩
          · rw [← rot_back _ m p (by omega), ← HROT.out]
            funext z
            exact swp_at r (p + 1) p z (by rw [HR.out]; omega) (by rw [HR.out]; omega) (by omega)
          · rw [HW2.out, ← HX1.out, ← HY1.out, rowW_swp r m2 (p + 1) p (by rw [HR.out]; omega) (by rw [HR.out]; omega)]
            rfl
        · have d3 : decide ((i : Int) < (k : Int)) = false := by simp; omega
          have d4 : (k : Int) ≤ (i : Int) := by omega
          clear hwr
          go_wp2_with fail
          refine bodyPost_ret (results_none rfl _ _ _) rfl ?_
          obtain rfl : i = k := by omega
          refine ⟨rfl, r, m2, ⟨HR.out, ?_, ?_, ?_⟩, HW2.out⟩
          · rw [HROT.out]; exact insert_last T _ a i m (by omega) (by omega) HS.out HLO.out HHI.out
          · intro z g1 g2
            have e := congrFun HROT.out z
            simp only [rotF] at e
            by_cases q1 : i ≤ z ∧ z < i + (m + 1 - m)
            · rw [if_pos q1] at e; exact ⟨_, by omega, by omega, e⟩
            · rw [if_neg q1] at e
              by_cases q2 : i + (m + 1 - m) ≤ z ∧ z < m + 1
              · rw [if_pos q2] at e; exact ⟨_, by omega, by omega, e⟩
              · rw [if_neg q2] at e; exact ⟨_, g1, g2, e⟩
          · intro z g1
            have e := congrFun HROT.out z
            rw [e]; exact rot_out _ (by omega) (by omega)
end
end Go.Proofs.YtbjjanmafejlnaaDoor
