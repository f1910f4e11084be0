/- The walk of stableCmpFunc, whole: blocks of 20 sorted, then merged. At most 1000 elements. -/
import Derived.Test.YtbjjanmafejlnaaDoorStableC
import Derived.Test.YtbjjanmafejlnaaDoorStableQ
namespace Go.Proofs.YtbjjanmafejlnaaDoor
open Go.RowKit Go.Sort Go.Lib Mg

section
variable {N : Nat} [Inhabited (Fin N)] {w0 : World} {blk bx : Nat} {cf : Fin N → Fin N → Int} {T : Fin N → Fin N → Prop}

theorem sym_any (E : MEnv N w0 blk bx cf T) (cap : Nat) : ∀ L, SymIH T w0 blk bx cap L := by
  intro L
  induction L with
  | zero => intro d m0 a m b _ h; omega
  | succ L ih =>
    intro d m0 a m b hd hL h1 h2 h3 hl hr hx
    by_cases c1 : m = a + 1
    · subst c1
      have := sym_left E cap d hd m0 a b (by omega) h3 hr (fun j j1 j2 => hx a j (by omega) (by omega) j1 j2)
      rw [show (((a + 1 : Nat) : Int)) = (a : Int) + 1 from by omega]
      exact this
    · by_cases c2 : b = m + 1
      · subst c2
        have := sym_right E cap d hd m0 a m (by omega) (by omega) hl (fun j j1 j2 => hx j m j1 j2 (by omega) (by omega))
        rw [show (((m + 1 : Nat) : Int)) = (m : Int) + 1 from by omega]
        exact this
      · exact sym_main E cap L ih d hd m0 a m b (by omega) (by omega) (by omega) h3 hl hr hx

/-- symMerge at two runs of one round -/
theorem sym_runs (E : MEnv N w0 blk bx cf T) (cap : Nat) (d : Array (Fin N)) (m0 L a b : Nat) (hL : 0 < L) (hr : Runs T L (2 * L) d a) (ha : ∃ c, a = 2 * L * c) (hb : b ≤ N) (hb2 : b ≤ a + 2 * L) (hb1 : a + L < b) :
    Calls Tryd.prog 61 #[.slice (some ⟨blk, 0, none⟩) N cap, .int .i64 a, .int .i64 (a + L : Nat), .int .i64 b, .func (.func 33) #[] #[.pointer (some ⟨bx, 0, none⟩)]] (rowW w0 blk d m0) fun e w' =>
      e = .returned (.tuple #[]) ∧ ∃ r m', Merged T (fun k => d[k]!) r a b ∧ w' = rowW w0 blk r m' := by
  obtain ⟨c, hc⟩ := ha
  have q1 : ∀ k, a ≤ k → k < a + L → k / L = 2 * c := by
    intro k h1 h2
    have e : a = 2 * c * L := by rw [hc, Nat.mul_right_comm]
    exact Nat.div_eq_of_lt_le (by omega) (by rw [Nat.succ_mul]; omega)
  have q2 : ∀ k, a + L ≤ k → k < a + 2 * L → k / L = 2 * c + 1 := by
    intro k h1 h2
    have e : a = 2 * c * L := by rw [hc, Nat.mul_right_comm]
    exact Nat.div_eq_of_lt_le (by rw [Nat.succ_mul]; omega) (by rw [Nat.succ_mul, Nat.succ_mul]; omega)
  refine sym_any E cap (b - a + 1) d m0 a (a + L) b hr.sz (by omega) (by omega) hb1 hb ?_ ?_ ?_
  · intro i j h1 h2 h3
    exact hr.s2 i j h2 (by omega) h1 (by rw [q1 i h1 (by omega), q1 j (by omega) h3])
  · intro i j h1 h2 h3
    exact hr.s2 i j h2 (by omega) (by omega) (by rw [q2 i h1 (by omega), q2 j (by omega) (by omega)])
  · intro i j h1 h2 h3 h4
    have v1 := hr.v2 i (by omega) h1
    have v2 := hr.v2 j (by omega) (by omega)
    rw [q1 i h1 h2] at v1
    rw [q2 j h3 (by omega)] at v2
    rcases Nat.lt_or_ge (d[i]!).val (d[j]!).val with h | h
    · exact h
    · have := Nat.div_le_div_right (c := L) h
      omega

theorem row_put (d r : Array (Fin N)) (m n : Nat) (h : r.size = d.size) : (putRow (encFin N) (rowW w0 blk d m) blk 0 r).drewN n = rowW w0 blk r (m + n) := by
  have := putRow_putRow (encFin N) w0 blk 0 d r h
  unfold rowW
  rw [← this]
  exact World.drewN_drewN (putRow (encFin N) (putRow (encFin N) w0 blk 0 d) blk 0 r) m n

/-- the insertion sort at one run -/
theorem ins_runs (E : MEnv N w0 blk bx cf T) (hcmp : CmpReads Tryd.prog 33 #[.pointer (some ⟨bx, 0, none⟩)] (encFin N) cf blk 0 N w0) (cap : Nat) (d : Array (Fin N)) (hd : d.size = N) (m0 a b : Nat) (hab : a ≤ b) (hb : b ≤ N)
    (hx : ∀ i j, a ≤ i → i < j → j < b → (d[i]!).val < (d[j]!).val) :
    Calls Tryd.prog 60 #[.slice (some ⟨blk, 0, none⟩) N cap, .int .i64 a, .int .i64 b, .func (.func 33) #[] #[.pointer (some ⟨bx, 0, none⟩)]] (rowW w0 blk d m0) fun e w' =>
      e = .returned (.tuple #[]) ∧ ∃ r m', Merged T (fun k => d[k]!) r a b ∧ w' = rowW w0 blk r m' := by
  have hs := E.env.small
  obtain ⟨d0, h0, hh⟩ := E.env.holds
  have hH : Holds (encFin N) (rowW w0 blk d m0) blk 0 d := holds_putRow (encFin N) w0 blk 0 d0 d hh (by omega)
  have hc : CmpReads Tryd.prog 33 #[.pointer (some ⟨bx, 0, none⟩)] (encFin N) cf blk 0 d.size (rowW w0 blk d m0) := by
    intro m os dk hdk x y
    have := hcmp (m0 + m) os dk (by omega) x y
    have e : sortWorld (encFin N) (rowW w0 blk d m0) blk 0 m dk os = sortWorld (encFin N) w0 blk 0 (m0 + m) dk os := by
      unfold sortWorld
      congr 1
      have := row_put (w0 := w0) (blk := blk) d dk m0 m (by omega)
      exact this
    rw [e]; exact this
  have hi := Any.insertionSortCmpFunc_one Tryd.insL (encFin N) (fun _ => rfl) cf 33 #[.pointer (some ⟨bx, 0, none⟩)] blk 0 cap a b d _ order1_enters hc hH hab (by omega) (by omega)
  have hm := ins_merged E.tr E.yes E.no d a b hd hab hb hx
  rw [hd] at hi
  refine hi.mono ?_
  rintro e w' ⟨he, n, hw⟩
  exact ⟨he, _, m0 + n, hm, by rw [hw, row_put d _ m0 n (by rw [hm.1, hd])]⟩

theorem Merged.none (d : Array (Fin N)) (hd : d.size = N) (a b : Nat) (h : SortedF T (fun k => d[k]!) a b) : Merged T (fun k => d[k]!) d a b :=
  ⟨hd, h, fun k g1 g2 => ⟨k, g1, g2, rfl⟩, fun k _ => rfl⟩

set_option maxRecDepth 100000 in
set_option maxHeartbeats 2000000 in
theorem stable_walk (E : MEnv N w0 blk bx cf T) (hcmp : CmpReads Tryd.prog 33 #[.pointer (some ⟨bx, 0, none⟩)] (encFin N) cf blk 0 N w0) (cap : Nat) (d0 : Array (Fin N)) (h0 : d0.size = N) (hid : ∀ k, k < N → (d0[k]!).val = k) :
    Calls Tryd.prog 47 #[.slice (some ⟨blk, 0, none⟩) N cap, .int .i64 N, .func (.func 33) #[] #[.pointer (some ⟨bx, 0, none⟩)]] (rowW w0 blk d0 0) fun e w' =>
      e = .returned (.tuple #[]) ∧ ∃ r m', r.size = N ∧ (∀ i j, i < j → j < N → T r[i]! r[j]!) ∧ w' = rowW w0 blk r m' := by
  have hN := E.env.small
  have h1 := Runs.start (T := T) d0 h0 20 hid
  have HI := Lib.hid (ins_runs E hcmp cap)
  have HS := Lib.hid (sym_runs E cap)
  have H1 := Lib.hid h1
  clear hcmp E h1 hid h0
  go_enter Tryd.func47, Tryd.ntmps47
  go_wp2_with fail
  go_loopw [7, 8] (fun vi vj wr => ∃ (c m : Nat) (d : Array (Fin N)), vi = .int .i64 (20 * c : Nat) ∧ vj = .int .i64 (20 * c + 20 : Nat) ∧ 20 * c ≤ N ∧ Runs T 1 20 d (20 * c) ∧ wr = rowW w0 blk d m) (fun vi _ _ => N - (intOf vi).toNat)
  case atStart => exact ⟨0, 0, d0, rfl, rfl, by omega, H1.out, rfl⟩
  case round =>
    obtain ⟨c, m, d, rfl, rfl, hc, hr, hwr⟩ := hrel
    have HR := Lib.hid hr; have HW := Lib.hid hwr
    clear hr hwr
    have hinc : ∀ i j, 20 * c ≤ i → i < j → j < N → (d[i]!).val < (d[j]!).val := by
      intro i j g1 g2 g3
      have v1 := HR.out.v2 i (by omega) g1
      have v2 := HR.out.v2 j g3 (by omega)
      simp only [Nat.div_one] at v1 v2
      omega
    have HINC := Lib.hid hinc
    clear hinc
    by_cases hlt : 20 * c + 20 ≤ N
    · have d1 : decide (((20 * c + 20 : Nat) : Int) ≤ (N : Int)) = true := by simp; omega
      go_wp2_with fail
      rw [HW.out]
      refine (HI.out d HR.out.sz m (20 * c) (20 * c + 20) (by omega) hlt (fun i j g1 g2 g3 => HINC.out i j g1 g2 (by omega))).mono ?_
      rintro e1 w1 ⟨rfl, r, m1, hm, hw⟩
      have HM := Lib.hid hm; have HW1 := Lib.hid hw
      clear hm hw
      go_wp2_with fail
      refine ⟨⟨c + 1, m1, r, by go_num, by go_num, by omega, HR.out.next (t := 20) rfl (by omega) ⟨c, rfl⟩ (by omega) (by omega) (.inl rfl) HM.out, HW1.out⟩, by simp [intOf]; omega⟩
    · have d1 : decide (((20 * c + 20 : Nat) : Int) ≤ (N : Int)) = false := by simp; omega
      go_wp2_with fail
      rw [HW.out]
      refine (HI.out d HR.out.sz m (20 * c) N hc (by omega) (fun i j g1 g2 g3 => HINC.out i j g1 g2 g3)).mono ?_
      rintro e1 w1 ⟨rfl, r, m1, hm, hw⟩
      have HM := Lib.hid hm; have HW1 := Lib.hid hw
      clear hm hw
      have hrr := HR.out.next (t := 20) rfl (by omega) ⟨c, rfl⟩ (by omega) (by omega) (.inr rfl) HM.out
      have hr2 := hrr.turn (by omega) 40
      have HR2 := Lib.hid hr2
      clear hrr hr2
      go_wp2_with fail
      go_loopw [6, 7, 8, 9] (fun v6 _ _ _ wr => ∃ (L m2 : Nat) (r2 : Array (Fin N)), v6 = .int .i64 L ∧ 20 ≤ L ∧ L ≤ 2 * N + 20 ∧ Runs T L (2 * L) r2 0 ∧ wr = rowW w0 blk r2 m2) (fun v6 _ _ _ _ => N - (intOf v6).toNat)
      case atStart => exact ⟨20, m1, r, rfl, by omega, by omega, HR2.out, HW1.out⟩
      case round =>
        clear HW1 HR2 HM d1
        obtain ⟨L, m2, r2, rfl, hL1, hL2, hr, hwr⟩ := hrel
        have HR2 := Lib.hid hr; have HW2 := Lib.hid hwr
        clear hr hwr
        by_cases hlt2 : L < N
        · have d1 : decide ((L : Int) < (N : Int)) = true := by simp; omega
          go_wp2_with fail
          go_loopw [7, 8] (fun vi vj wr => ∃ (c2 m3 : Nat) (r3 : Array (Fin N)), vi = .int .i64 (2 * L * c2 : Nat) ∧ vj = .int .i64 (2 * L * c2 + 2 * L : Nat) ∧ 2 * L * c2 ≤ N ∧ Runs T L (2 * L) r3 (2 * L * c2) ∧ wr = rowW w0 blk r3 m3) (fun vi _ _ => N - (intOf vi).toNat)
          case atStart => exact ⟨0, m2, r2, by simp, by simp, by omega, by simpa using HR2.out, HW2.out⟩
          case round =>
            obtain ⟨c2, m3, r3, rfl, rfl, hc2, hr, hwr⟩ := hrel
            obtain ⟨p, hp⟩ : ∃ p, p = 2 * L * c2 := ⟨_, rfl⟩
            have HR3 := Lib.hid hr; have HW3 := Lib.hid hwr; have HP := Lib.hid hp
            clear hr hwr
            rw [← hp] at hc2 ⊢
            clear hp
            by_cases hlt3 : p + 2 * L ≤ N
            · have d3 : decide (((p + 2 * L : Nat) : Int) ≤ (N : Int)) = true := by simp; omega
              go_wp2_with fail
              rw [HW3.out, show (p : Int) + (L : Int) = ((p + L : Nat) : Int) from by omega]
              refine (HS.out r3 m3 L p (p + 2 * L) (by omega) (HP.out ▸ HR3.out) ⟨c2, HP.out⟩ hlt3 (by omega) (by omega)).mono ?_
              rintro e1 w1 ⟨rfl, r4, m4, hm, hw⟩
              have HM := Lib.hid hm; have HW1 := Lib.hid hw
              clear hm hw
              go_wp2_with fail
              have hn : 2 * L * (c2 + 1) = p + 2 * L := by rw [Nat.mul_succ, HP.out]
              refine ⟨⟨c2 + 1, m4, r4, by rw [hn]; exact congrArg (Value.int .i64) (by omega), by rw [hn]; exact congrArg (Value.int .i64) (by omega), by rw [hn]; omega, ?_, HW1.out⟩, by simp [intOf]; omega⟩
              rw [hn]
              exact Runs.next (HP.out ▸ HR3.out) (t := 2) (by omega) (by omega) ⟨c2, HP.out⟩ hlt3 (by omega) (.inl rfl) HM.out
            · have d3 : decide (((p + 2 * L : Nat) : Int) ≤ (N : Int)) = false := by simp; omega
              by_cases hlt4 : p + L < N
              · have d4 : decide ((p : Int) + (L : Int) < (N : Int)) = true := by simp; omega
                go_wp2_with fail
                rw [HW3.out, show (p : Int) + (L : Int) = ((p + L : Nat) : Int) from by omega]
                refine (HS.out r3 m3 L p N (by omega) (HP.out ▸ HR3.out) ⟨c2, HP.out⟩ (by omega) (by omega) hlt4).mono ?_
                rintro e1 w1 ⟨rfl, r4, m4, hm, hw⟩
                have HM := Lib.hid hm; have HW1 := Lib.hid hw
                clear hm hw
                go_wp2_with fail
                refine ⟨⟨2 * L, m4, r4, by go_num, by omega, by omega, ?_, HW1.out⟩, by simp [intOf]; omega⟩
                exact (Runs.next (HP.out ▸ HR3.out) (t := 2) (by omega) (by omega) ⟨c2, HP.out⟩ (Nat.le_refl _) (by omega) (.inr rfl) HM.out).turn (by omega) _
              · have d4 : decide ((p : Int) + (L : Int) < (N : Int)) = false := by simp; omega
                go_wp2_with fail
                have hm : Merged T (fun k => r3[k]!) r3 p N := by
                  refine Merged.none r3 HR3.out.sz p N (fun i j g1 g2 g3 => ?_)
                  have q : ∀ k, p ≤ k → k < p + L → k / L = 2 * c2 := by
                    intro k h1 h2
                    have e : p = 2 * c2 * L := by rw [HP.out, Nat.mul_right_comm]
                    exact Nat.div_eq_of_lt_le (by omega) (by rw [Nat.succ_mul]; omega)
                  exact HR3.out.s2 i j g2 g3 (HP.out ▸ g1) (by rw [q i g1 (by omega), q j (by omega) (by omega)])
                refine ⟨⟨2 * L, m3, r3, by go_num, by omega, by omega, ?_, HW3.out⟩, by simp [intOf]; omega⟩
                exact (Runs.next (HP.out ▸ HR3.out) (t := 2) (by omega) (by omega) ⟨c2, HP.out⟩ (Nat.le_refl _) (by omega) (.inr rfl) hm).turn (by omega) _
        · have d1 : decide ((L : Int) < (N : Int)) = false := by simp; omega
          go_wp2_with fail
          go_end0
          exact ⟨rfl, r2, m2, HR2.out.sz, HR2.out.done (by omega), HW2.out⟩
end
end Go.Proofs.YtbjjanmafejlnaaDoor
