/- The walks of Greatest, the program's and the reference's: the last number in the order. -/
import Derived.Test.YtbjjanmafejlnaaDoorRatioB
import Derived.Test.YtbjjanmafejlnaaDoorFlSigns
import Derived.Outline
namespace Go.Proofs.YtbjjanmafejlnaaDoor
open Go.RowKit Go.Sort Go.Lib

theorem nan_val (r : Nat) (h : Fl.kind r = 6) : Fl.val (Fl.D r) = 0 := by
  unfold Fl.kind at h
  cases e : Fl.D r with
  | nan s f => rfl
  | infinity s => rw [e] at h; cases s <;> simp [Fl.kd] at h
  | number s m p => rw [e] at h; simp only [Fl.kd] at h; repeat' split at h
                    all_goals omega
theorem run_frombits (x : Nat) (w : World) : (callFunc 46 #[.int .u64 x]).run Tryd.prog w = .ok (.value (.float .f64 x)) w := by
  rw [run_callFunc_extern Tryd.func46 (by kernel_rfl) (by kernel_rfl) (by kernel_rfl) (e := Extern.MathFloatBits.float64frombits) (by kernel_rfl)]
  rfl
theorem nan_any (w : World) : Calls Tryd.prog 31 #[] w fun e w' => e = .returned (.float .f64 9221120237041090561) ∧ w = w' := by
  have hb : (callFunc 46 #[.int .u64 (9221120237041090561 : Int)]).run Tryd.prog w = .ok (.value (.float .f64 9221120237041090561)) w := run_frombits 9221120237041090561 w
  go_enter Tryd.func31, Tryd.ntmps31
  go_wp2
  go_ret
  exact ⟨rfl, rfl⟩
theorem nan_kind : Fl.kind 9221120237041090561 = 6 := by decide +kernel

/-- what Greatest has found among the first k -/
def Great (xs : Nat → Nat) (k r : Nat) : Prop :=
  r < 2 ^ 64 ∧ ((Fl.kind r = 6 ∧ ∀ j, j < k → Fl.kind (xs j) = 6) ∨ (Fl.kind r ≠ 6 ∧ (∃ j, j < k ∧ r = xs j) ∧ ∀ j, j < k → Fl.kind (xs j) ≠ 6 → Fl.lessF r (xs j) = false))

theorem Great.skip {xs : Nat → Nat} {k r : Nat} (h : Great xs k r) (hk : Fl.kind (xs k) = 6) : Great xs (k + 1) r := by
  obtain ⟨h0, ⟨h1, h2⟩ | ⟨h1, ⟨j, j1, j2⟩, h3⟩⟩ := h
  · refine ⟨h0, .inl ⟨h1, fun j hj => ?_⟩⟩
    by_cases e : j = k
    · rw [e]; exact hk
    · exact h2 j (by omega)
  · refine ⟨h0, .inr ⟨h1, ⟨j, by omega, j2⟩, fun i hi hn => ?_⟩⟩
    by_cases e : i = k
    · rw [e] at hn; exact absurd hk hn
    · exact h3 i (by omega) hn
theorem Great.keep {xs : Nat → Nat} {k r : Nat} (h : Great xs k r) (hr : Fl.kind r ≠ 6) (hk : Fl.lessF r (xs k) = false) : Great xs (k + 1) r := by
  obtain ⟨h0, ⟨h1, h2⟩ | ⟨h1, ⟨j, j1, j2⟩, h3⟩⟩ := h
  · exact absurd h1 hr
  · refine ⟨h0, .inr ⟨h1, ⟨j, by omega, j2⟩, fun i hi hn => ?_⟩⟩
    by_cases e : i = k
    · rw [e]; exact hk
    · exact h3 i (by omega) hn
theorem Great.take {xs : Nat → Nat} {k r : Nat} (h : Great xs k r) (hx : xs k < 2 ^ 64) (hk : Fl.kind (xs k) ≠ 6) (hr : Fl.kind r = 6 ∨ Fl.lessF r (xs k) = true) : Great xs (k + 1) (xs k) := by
  obtain ⟨h0, h1⟩ := h
  refine ⟨hx, .inr ⟨hk, ⟨k, by omega, rfl⟩, fun i hi hn => ?_⟩⟩
  by_cases e : i = k
  · rw [e]; exact Fl.less_irrefl _
  · rcases h1 with ⟨h1, h2⟩ | ⟨h1, _, h3⟩
    · exact absurd (h2 i (by omega)) hn
    · rcases hr with hr | hr
      · exact absurd hr h1
      · cases hl : Fl.lessF (xs k) (xs i)
        · rfl
        · have := Fl.less_trans hr hl
          rw [h3 i (by omega) hn] at this
          exact absurd this (by simp)
theorem Great.same {xs : Nat → Nat} {n r s : Nat} (h : Great xs n r) (k : Great xs n s) : Fl.sameF r s = true := by
  unfold Fl.sameF
  have key : ∀ r s, Great xs n r → Great xs n s → Fl.lessF r s = false := by
    rintro r s ⟨_, ⟨h1, h2⟩ | ⟨h1, ⟨j, j1, j2⟩, h3⟩⟩ ⟨_, ⟨k1, k2⟩ | ⟨k1, ⟨i, i1, i2⟩, k3⟩⟩
    · rw [Fl.less_iff, nan_val r h1, nan_val s k1, h1, k1]; simp
    · exact absurd (h2 i i1) (i2 ▸ k1)
    · exact absurd (k2 j j1) (j2 ▸ h1)
    · rw [i2] at k1 ⊢; exact h3 i i1 k1
  rw [key r s h k, key s r k h]; rfl

def GRel (xs : Nat → Nat) (n : Nat) (w : World) (v3 v9 : Value) (wr : World) : Prop := ∃ (k r : Nat), k ≤ n ∧ v9 = .int .i64 k ∧ v3 = .float .f64 r ∧ Great xs k r ∧ wr = w

set_option maxHeartbeats 1000000 in
theorem greatest_any (n cap : Nat) (A : Option Addr) (xs : Nat → Nat) (hn : n ≤ 140737488355328) (hxs : ∀ k, k < n → xs k < 2 ^ 64) (w : World)
    (hc : ∀ k, k < n → ∃ b o, A = some ⟨b, o, none⟩ ∧ w.cell? ⟨b, o + k, none⟩ = some (.float .f64 (xs k))) :
    Calls Tryd.prog 19 #[.slice A n cap] w fun e w' => ∃ r, Great xs n r ∧ e = .returned (.float .f64 r) ∧ w = w' := by
  have HX := Lib.hid hxs; have HC := Lib.hid hc
  clear hxs hc
  have h0 : Great xs 0 9221120237041090561 := ⟨by decide, .inl ⟨nan_kind, fun j h => by omega⟩⟩
  have H0 := Lib.hid h0
  clear h0
  go_enter Tryd.func19, Tryd.ntmps19
  go_wp2_with (go_at_call 31; (with_reducible refine (nan_any _).mono ?_); rintro e w' ⟨rfl, rfl⟩)
  go_loopw [3, 5, 9] (fun v3 _ v9 wr => GRel xs n w v3 v9 wr) (fun _ _ v9 _ => n - (intOf v9).toNat)
  case atStart => exact ⟨0, _, by omega, rfl, rfl, H0.out, rfl⟩
  case round =>
    obtain ⟨k, r, hk, rfl, rfl, hg, rfl⟩ := hrel
    have HG := Lib.hid hg; clear hg
    by_cases hlt : k < n
    · obtain ⟨b, o, rfl, hcell⟩ := HC.out k hlt
      have d1 : decide ((k : Int) < (n : Int)) = true := by simp; omega
      have hx := HX.out k hlt
      have hr := HG.out.1
      have HXK := Lib.hid hx; have HRK := Lib.hid hr
      clear hx hr
      have step : ∀ r', Great xs (k + 1) r' → GRel xs n wr (.float .f64 r') (.int .i64 ((k : Int) + 1)) wr := fun r' h => ⟨k + 1, r', by omega, by go_num, rfl, h, rfl⟩
      have s1 : Fl.kind (xs k) = 6 → GRel xs n wr (.float .f64 r) (.int .i64 ((k : Int) + 1)) wr := fun h => step _ (HG.out.skip h)
      have s2 : Fl.kind r ≠ 6 → Fl.lessF r (xs k) = false → GRel xs n wr (.float .f64 r) (.int .i64 ((k : Int) + 1)) wr := fun h1 h2 => step _ (HG.out.keep h1 h2)
      have s3 : Fl.kind (xs k) ≠ 6 → (Fl.kind r = 6 ∨ Fl.lessF r (xs k) = true) → GRel xs n wr (.float .f64 (xs k)) (.int .i64 ((k : Int) + 1)) wr := fun h1 h2 => step _ (HG.out.take HXK.out h1 h2)
      have S1 := Lib.hid s1; have S2 := Lib.hid s2; have S3 := Lib.hid s3; clear step s1 s2 s3
      generalize hxk : xs k = x at *
      clear hxk
      by_cases h6 : Fl.kind x = 6
      · have e1 : (Fl.kind x == 6) = true := by simpa using h6
        have H6 := Lib.hid h6; clear h6
        go_wp2_with (go_at_call 24; (with_reducible refine (kind_any x HXK.out _).mono ?_); rintro e w' ⟨rfl, rfl⟩)
        exact ⟨S1.out H6.out, by simp [intOf]; omega⟩
      · have e1 : (Fl.kind x == 6) = false := by simpa using h6
        have H6 := Lib.hid h6; clear h6
        go_wp2_with fail
        refine (kind_any x HXK.out _).mono ?_
        rintro e w' ⟨rfl, rfl⟩
        by_cases hr6 : Fl.kind r = 6
        · have e2 : (Fl.kind r == 6) = true := by simpa using hr6
          have R6 := Lib.hid hr6; clear hr6
          go_wp2_with fail
          refine (kind_any r HRK.out _).mono ?_
          rintro e w' ⟨rfl, rfl⟩
          go_wp2_with fail
          exact ⟨S3.out H6.out (.inl R6.out), by simp [intOf]; omega⟩
        · have e2 : (Fl.kind r == 6) = false := by simpa using hr6
          have R6 := Lib.hid hr6; clear hr6
          go_wp2_with fail
          refine (kind_any r HRK.out _).mono ?_
          rintro e w' ⟨rfl, rfl⟩
          cases hl : Fl.lessF r x
          · have hcall := less_any r x HRK.out HXK.out wr
            rw [hl] at hcall
            have HL := Lib.hid hl; have HCALL := Lib.hid hcall; clear hl hcall
            go_wp2_with fail
            refine HCALL.out.mono ?_
            rintro e w' ⟨rfl, rfl⟩
            go_wp2_with fail
            exact ⟨S2.out R6.out HL.out, by simp [intOf]; omega⟩
          · have hcall := less_any r x HRK.out HXK.out wr
            rw [hl] at hcall
            have HL := Lib.hid hl; have HCALL := Lib.hid hcall; clear hl hcall
            go_wp2_with fail
            refine HCALL.out.mono ?_
            rintro e w' ⟨rfl, rfl⟩
            go_wp2_with fail
            exact ⟨S3.out H6.out (.inr HL.out), by simp [intOf]; omega⟩
    · obtain rfl : k = n := by omega
      have d1 : decide ((k : Int) < (k : Int)) = false := by simp
      go_wp2_with fail
      go_ret
      exact ⟨r, HG.out, rfl, rfl⟩

set_option maxHeartbeats 1000000 in
theorem rgreatest_any (n cap : Nat) (A : Option Addr) (xs : Nat → Nat) (hn : n ≤ 140737488355328) (hxs : ∀ k, k < n → xs k < 2 ^ 64) (w : World)
    (hc : ∀ k, k < n → ∃ b o, A = some ⟨b, o, none⟩ ∧ w.cell? ⟨b, o + k, none⟩ = some (.float .f64 (xs k))) :
    Calls Tryd.prog 20 #[.slice A n cap] w fun e w' => ∃ r, Great xs n r ∧ e = .returned (.float .f64 r) ∧ w.drew = w' := by
  have HX := Lib.hid hxs; have HC := Lib.hid hc
  clear hxs hc
  have hq := fun w => run_float_nan (P := Tryd.prog) w .quo 22 0 0 (by decide +kernel)
  have h0 : ∀ t, Great xs 0 (Question.cut (.nanBits .f64 0 0) t) := by
    intro t
    obtain ⟨s, f, h⟩ := Fl.nanBits_nan 0 0 t
    exact ⟨Fl.cut_lt 0 0 t, .inl ⟨by unfold Fl.kind; rw [h]; rfl, fun j h => by omega⟩⟩
  have H0 := Lib.hid h0
  clear h0
  go_enter Tryd.func20, Tryd.ntmps20
  go_wp2_with fail
  go_loopw [4, 5] (fun v3 v9 wr => GRel xs n w.drew v3 v9 wr) (fun _ v9 _ => n - (intOf v9).toNat)
  case atStart => exact ⟨0, _, by omega, rfl, rfl, H0.out _, rfl⟩
  case round =>
    obtain ⟨k, r, hk, rfl, rfl, hg, rfl⟩ := hrel
    have HG := Lib.hid hg; clear hg hq
    by_cases hlt : k < n
    · obtain ⟨b, o, rfl, hcell0⟩ := HC.out k hlt
      have hcell : w.drew.cell? ⟨b, o + k, none⟩ = some (.float .f64 (xs k)) := hcell0
      clear hcell0
      have d1 : decide ((k : Int) < (n : Int)) = true := by simp; omega
      have hx := HX.out k hlt
      have HXK := Lib.hid hx
      clear hx
      have step : ∀ r', Great xs (k + 1) r' → GRel xs n w.drew (.float .f64 r') (.int .i64 ((k : Int) + 1)) w.drew := fun r' h => ⟨k + 1, r', by omega, by go_num, rfl, h, rfl⟩
      have s1 : Fl.kind (xs k) = 6 → GRel xs n w.drew (.float .f64 r) (.int .i64 ((k : Int) + 1)) w.drew := fun h => step _ (HG.out.skip h)
      have s2 : Fl.kind r ≠ 6 → Fl.lessF r (xs k) = false → GRel xs n w.drew (.float .f64 r) (.int .i64 ((k : Int) + 1)) w.drew := fun h1 h2 => step _ (HG.out.keep h1 h2)
      have s3 : Fl.kind (xs k) ≠ 6 → (Fl.kind r = 6 ∨ Fl.lessF r (xs k) = true) → GRel xs n w.drew (.float .f64 (xs k)) (.int .i64 ((k : Int) + 1)) w.drew := fun h1 h2 => step _ (HG.out.take HXK.out h1 h2)
      have S1 := Lib.hid s1; have S2 := Lib.hid s2; have S3 := Lib.hid s3; clear step s1 s2 s3
      generalize hxk : xs k = x at *
      clear hxk
      by_cases h6 : Fl.kind x = 6
      · have e1 : Fl.noneF x = true := by rw [Fl.noneF_iff]; simpa using h6
        have hcall := rnone_any x w.drew
        rw [e1] at hcall
        have H6 := Lib.hid h6; have HCALL := Lib.hid hcall; clear h6 e1 hcall
        go_wp2_with (go_at_call 28; (with_reducible refine HCALL.out.mono ?_); rintro e w' ⟨rfl, rfl⟩)
        exact ⟨S1.out H6.out, by simp [intOf]; omega⟩
      · have e1 : Fl.noneF x = false := by rw [Fl.noneF_iff]; simpa using h6
        have hcall := rnone_any x w.drew
        rw [e1] at hcall
        have H6 := Lib.hid h6; have HCALL := Lib.hid hcall; clear h6 e1 hcall
        go_wp2_with fail
        refine HCALL.out.mono ?_
        rintro e w' ⟨rfl, rfl⟩
        by_cases hr6 : Fl.kind r = 6
        · have e2 : Fl.noneF r = true := by rw [Fl.noneF_iff]; simpa using hr6
          have hcall := rnone_any r w.drew
          rw [e2] at hcall
          have R6 := Lib.hid hr6; have HCALL2 := Lib.hid hcall; clear hr6 e2 hcall
          go_wp2_with fail
          refine HCALL2.out.mono ?_
          rintro e w' ⟨rfl, rfl⟩
          go_wp2_with fail
          exact ⟨S3.out H6.out (.inl R6.out), by simp [intOf]; omega⟩
        · have e2 : Fl.noneF r = false := by rw [Fl.noneF_iff]; simpa using hr6
          have hcall := rnone_any r w.drew
          rw [e2] at hcall
          have R6 := Lib.hid hr6; have HCALL2 := Lib.hid hcall; clear hr6 e2 hcall
          go_wp2_with fail
          refine HCALL2.out.mono ?_
          rintro e w' ⟨rfl, rfl⟩
          cases hl : Fl.lessF r x
          · have hcall := rless_any r x w.drew
            rw [hl] at hcall
            have HL := Lib.hid hl; have HCALL3 := Lib.hid hcall; clear hl hcall
            go_wp2_with fail
            refine HCALL3.out.mono ?_
            rintro e w' ⟨rfl, rfl⟩
            go_wp2_with fail
            exact ⟨S2.out R6.out HL.out, by simp [intOf]; omega⟩
          · have hcall := rless_any r x w.drew
            rw [hl] at hcall
            have HL := Lib.hid hl; have HCALL3 := Lib.hid hcall; clear hl hcall
            go_wp2_with fail
            refine HCALL3.out.mono ?_
            rintro e w' ⟨rfl, rfl⟩
            go_wp2_with fail
            exact ⟨S3.out H6.out (.inr HL.out), by simp [intOf]; omega⟩
    · obtain rfl : k = n := by omega
      have d1 : decide ((k : Int) < (k : Int)) = false := by simp
      go_wp2_with fail
      go_ret
      exact ⟨r, HG.out, rfl, rfl⟩
end Go.Proofs.YtbjjanmafejlnaaDoor
