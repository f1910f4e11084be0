/- The walk of the reference's Text (P1.3): of every float it returns the text that ratio.Text returns; only draws are made. -/
import Derived.Test.YtbjjanmafejlnaaDoorRatioC
import Derived.IntWalk
namespace Go.Proofs.YtbjjanmafejlnaaDoor
open Go.RowKit Go.Sort

theorem rtext_nan (x : Nat) (h : Fl.kind x = 6) (w : World) : Calls Tryd.prog 15 #[.float .f64 x] w (TextEnds x w) := by
  have hn := (Fl.none_kind x).2 h
  have ht : Fl.textL x = [110, 97, 110] := by unfold Fl.textL; rw [if_pos h]
  have hc := rnone_any x
  rw [hn] at hc
  have HC := Lib.hid hc
  have HT := Lib.hid ht
  clear ht hc hn h
  go_enter Tryd.func15, Tryd.ntmps15
  go_wp2_with (go_at_call 28; (with_reducible refine (HC.out _).mono ?_); rintro e w' ⟨rfl, rfl⟩)
  go_ret
  exact ⟨by rw [HT.out]; rfl, Below.refl _ _⟩

def Over (x : Nat) (b1 b2 : Bool) : Prop :=
  (FloatKind.f64.format.order x 4696837146684686336 == some Ordering.gt || FloatKind.f64.format.order x 4696837146684686336 == some Ordering.eq) = b1 ∧
  (FloatKind.f64.format.order x 13920209183539462144 == some Ordering.lt || FloatKind.f64.format.order x 13920209183539462144 == some Ordering.eq) = b2
theorem over_of (x : Nat) (h : (Fl.geBig x || Fl.leMbig x) = true) : (Over x true (Fl.leMbig x)) ∨ Over x false true := by
  unfold Over
  show (Fl.geBig x = true ∧ Fl.leMbig x = _) ∨ (Fl.geBig x = false ∧ Fl.leMbig x = true)
  cases hg : Fl.geBig x
  · rw [hg] at h; exact .inr ⟨rfl, by simpa using h⟩
  · exact .inl ⟨rfl, rfl⟩

/-- too great ones: what stands behind the sign -/
theorem rtext_over (x : Nat) (s : Bool) (w : World) (hn : Fl.noneF x = false) (hm : Fl.minusF x = s) (hb : (Fl.geBig x || Fl.leMbig x) = true) (tail : List UInt8)
    (ht : Fl.textL x = (if s then [45] else []) ++ tail)
    (hs : (tail = [105, 110, 102] ∧ Ieee.double.sub x x = none) ∨ (tail = [98, 105, 103] ∧ Ieee.double.sub x x = some 0)) :
    Calls Tryd.prog 15 #[.float .f64 x] w (TextEnds x w) := by
  have hc := rnone_any x
  rw [hn] at hc
  have hmm := rminus_any x
  rw [hm] at hmm
  have HC := Lib.hid hc
  have HM := Lib.hid hmm
  have HT := Lib.hid ht
  have ho := over_of x hb
  clear hc hmm ht hn hm hb
  have hfin : ∀ wz : World, Below w.heap.size w wz → ∀ str : ByteArray, str = ⟨((if s then [45] else []) ++ tail).toArray⟩ → TextEnds x w (.returned (.string str)) wz := by
    rintro wz hwz str rfl
    exact ⟨by rw [HT.out], hwz⟩
  have HF := Lib.hid hfin; clear hfin HT
  rcases hs with ⟨rfl, hsub⟩ | ⟨rfl, hsub⟩
  · have hq := fun w => run_float_nan (P := Tryd.prog) w .sub 22 x x hsub
    have hq2 : ∀ t, (FloatKind.f64.format.order (Question.cut (.nanBits .f64 x x) t) 0 != some Ordering.eq) = true := fun t => Fl.nan_neq _ (Fl.nanBits_nan _ _ _)
    clear hsub
    rcases ho with ⟨o1, o2⟩ | ⟨o1, o2⟩ <;> cases s
    all_goals
      go_enter Tryd.func15, Tryd.ntmps15
      go_wp2_with (first | (go_at_call 28; (with_reducible refine (HC.out _).mono ?_); rintro e w' ⟨rfl, rfl⟩) | (go_at_call 29; (with_reducible refine (HM.out _).mono ?_); rintro e w' ⟨rfl, rfl⟩))
      go_ret
      exact HF.out _ ((Below.refl _ _).drew) _ rfl
  · have hq := fun w => run_float_arith (P := Tryd.prog) w .sub 22 .f64 x x 0 hsub
    have hq2 : (FloatKind.f64.format.order 0 0 != some Ordering.eq) = false := by decide
    clear hsub
    rcases ho with ⟨o1, o2⟩ | ⟨o1, o2⟩ <;> cases s
    all_goals
      go_enter Tryd.func15, Tryd.ntmps15
      go_wp2_with (first | (go_at_call 28; (with_reducible refine (HC.out _).mono ?_); rintro e w' ⟨rfl, rfl⟩) | (go_at_call 29; (with_reducible refine (HM.out _).mono ?_); rintro e w' ⟨rfl, rfl⟩))
      go_ret
      exact HF.out _ (Below.refl _ _) _ rfl

theorem pad_done (L : List UInt8) (j : Nat) (h1 : j + L.length ≤ max 4 L.length) (h2 : 4 ≤ j + L.length) : List.replicate j 48 ++ L = Fl.pad4 L := by
  unfold Fl.pad4; rw [show j = 4 - L.length from by omega]
theorem pad_more (L : List UInt8) (j : Nat) : (⟨#[48]⟩ : ByteArray) ++ ⟨(List.replicate j 48 ++ L).toArray⟩ = ⟨(List.replicate (j + 1) 48 ++ L).toArray⟩ := by
  have := ba_append [48] (List.replicate j 48 ++ L)
  rw [List.replicate_succ, List.cons_append]
  exact this
theorem dot_str3 (sg S : List UInt8) (d : Nat) (h : S.length - 3 = d) : (⟨sg.toArray⟩ : ByteArray) ++ (⟨S.toArray⟩ : ByteArray).extract 0 d ++ ⟨#[46]⟩ ++ (⟨S.toArray⟩ : ByteArray).extract d S.length = ⟨(sg ++ Fl.dotted S).toArray⟩ := by
  rw [← ba_append, ← dot_str S d h]
  apply ByteArray.ext
  simp only [ByteArray.data_append, Array.append_assoc]

set_option maxHeartbeats 1000000 in
theorem rtext_num (x : Nat) (w : World) (h6 : Fl.kind x ≠ 6) (h5 : Fl.kind x ≠ 5) (h0 : Fl.kind x ≠ 0) (hb : Fl.geBig x = false) (hb2 : Fl.leMbig x = false) :
    Calls Tryd.prog 15 #[.float .f64 x] w (TextEnds x w) := by
  have hn := Fl.none_kind' x h6
  have hc := rnone_any x
  rw [hn] at hc
  have HC := Lib.hid hc
  have hmm := rminus_any x
  have HM := Lib.hid hmm
  have hnum := Fl.kind_num h6 h5 h0
  have ht : Fl.textL x = (if Fl.minusF x then [45] else []) ++ Fl.dotted (Fl.pad4 (Lib.decDigits (Fl.floorD (Fl.D (Fl.zOf x))).natAbs)) := by
    unfold Fl.textL; rw [if_neg h6, if_neg h5, if_neg h0, hb, hb2]; rfl
  have hg : (FloatKind.f64.format.order x 4696837146684686336 == some Ordering.gt || FloatKind.f64.format.order x 4696837146684686336 == some Ordering.eq) = false := hb
  have hg2 : (FloatKind.f64.format.order x 13920209183539462144 == some Ordering.lt || FloatKind.f64.format.order x 13920209183539462144 == some Ordering.eq) = false := hb2
  obtain ⟨s, m, p, hd⟩ := hnum
  obtain ⟨e1, e2, t, kk, q, e3, e4, e5⟩ := Fl.num_facts hd hb hb2
  have hmul := fun w => run_float_arith (P := Tryd.prog) w .mul 22 .f64 x 4652007308841189376 (Fl.yOf x) e1
  have hadd := fun w => run_float_arith (P := Tryd.prog) w .add 22 .f64 (Fl.yOf x) 4602678819172646912 (Fl.zOf x) e2
  have hconv := fun w => run_convert_float_int (P := Tryd.prog) w 22 3 .f64 .i64 _ _ (by kernel_rfl) Tryd.underlying3 (Fl.conv_int (Fl.zOf x) e3 e4 (Nat.le_trans e5 (Nat.mul_le_mul_right _ (by omega))))
  obtain ⟨hgt, hft⟩ := Fl.floor_trunc (Fl.zOf x) e3 e4 e5
  have hgt' : (FloatKind.f64.format.order (floatOfInt .f64 (Fl.truncD (Fl.D (Fl.zOf x)))) (Fl.zOf x) == some Ordering.gt) = decide (Fl.floorD (Fl.D (Fl.zOf x)) ≠ Fl.truncD (Fl.D (Fl.zOf x))) := hgt
  have hbd := Fl.floorD_bound e3 e4 e5
  have hbt := Fl.truncD_bound e3 e4 e5
  have HT := Lib.hid ht
  clear ht hc hmm hb hb2 h6 h5 h0 hn hd e1 e2 e3 e4 e5 hgt
  generalize Fl.minusF x = mn at *
  generalize Fl.floorD (Fl.D (Fl.zOf x)) = N at *
  generalize Fl.truncD (Fl.D (Fl.zOf x)) = T at *
  generalize Fl.yOf x = y at *
  generalize Fl.zOf x = z at *
  obtain ⟨hb1, hb2⟩ := hbd
  obtain ⟨hb3, hb4⟩ := hbt
  obtain ⟨M, hM⟩ : ∃ M : Nat, N.natAbs = M := ⟨_, rfl⟩
  rw [hM] at HT
  have hlen := decDigits_len M (by omega)
  have hlen1 : 1 ≤ (Lib.decDigits M).length := by rw [Lib.decDigits]; split <;> simp
  have hsg : ∀ wz : World, Below w.heap.size w wz → ∀ str : ByteArray, str = ⟨((if mn then [45] else []) ++ Fl.dotted (Fl.pad4 (Lib.decDigits M))).toArray⟩ → TextEnds x w (.returned (.string str)) wz := by
    rintro wz hwz str rfl
    exact ⟨by rw [HT.out], hwz⟩
  have HF := Lib.hid hsg; clear hsg HT
  have hcase : ∃ b, (FloatKind.f64.format.order (floatOfInt .f64 T) z == some Ordering.gt) = b ∧ T = N + (if b then 1 else 0) := by
    refine ⟨_, hgt', ?_⟩
    by_cases hne : N = T
    · simp [hne]
    · have := hft hne; simp [hne]; omega
  obtain ⟨b, hgf, rfl⟩ := hcase
  clear hgt' hft
  cases b
  all_goals
    simp only [Bool.false_eq_true, if_false, if_true, Int.add_zero] at *
    by_cases hneg : N < 0 <;> cases mn
    all_goals
      go_enter Tryd.func15, Tryd.ntmps15
      go_wp2_with (first | (go_at_call 28; (with_reducible refine (HC.out _).mono ?_); rintro e w' ⟨rfl, rfl⟩) | (go_at_call 29; (with_reducible refine (HM.out _).mono ?_); rintro e w' ⟨rfl, rfl⟩))
      refine (digits_at _ (by omega) (by omega) _).mono ?_
      rintro e w1 ⟨rfl, rfl⟩
      first
      | rw [show (-N).toNat = M from by omega]
      | rw [show N.toNat = M from by omega]
      clear hM
      generalize Lib.decDigits M = L at *
      go_wp2_with fail
      go_loop [6] (fun v => ∃ j, v = .string ⟨(List.replicate j 48 ++ L).toArray⟩ ∧ j + L.length ≤ max 4 L.length) (fun v => match v with | .string s => 4 - s.size | _ => 0)
      case atStart => exact ⟨0, by simp, by omega⟩
      case round =>
        obtain ⟨j, rfl, hj⟩ := hrel
        have hsz : (⟨(List.replicate j 48 ++ L).toArray⟩ : ByteArray).size = j + L.length := by show Array.size _ = _; simp
        have hap := pad_more L j
        have HAP := Lib.hid hap; clear hap
        by_cases hl4 : j + L.length < 4
        · go_wp2_with fail
          refine ⟨⟨j + 1, by rw [HAP.out], by omega⟩, ?_⟩
          rw [HAP.out]
          show 4 - Array.size _ < 4 - Array.size _
          simp; omega
        · have hpd := pad_done L j hj (by omega)
          rw [hpd]
          have hS1 : (Fl.pad4 L).length ≤ 20 := by rw [Fl.pad4_len]; omega
          have hS2 : 4 ≤ (Fl.pad4 L).length := by rw [Fl.pad4_len]; omega
          clear hpd HAP hsz hj hl4 hlen hlen1
          generalize Fl.pad4 L = S at *
          go_wp2_with fail
          have w1 : IntKind.i64.wrap ((S.length : Int) - 3) = (S.length : Int) - 3 := IntWalk.i64_in _ (by omega)
          have w2 : (0 : Int) ≤ (S.length : Int) - 3 := by omega
          have w3 : ((S.length : Int) - 3).toNat = S.length - 3 := by omega
          have w4 : S.length - 3 ≤ S.length := by omega
          go_quiet (fail)
          clear w1 w2 w3
          go_wp2_with fail
          go_ret
          exact HF.out _ (below_drewN' (Below.refl _ _) _) _ (by first | exact dot_str3 [] S _ rfl | exact dot_str3 [45] S _ rfl)

theorem rtext_any (x : Nat) (w : World) : Calls Tryd.prog 15 #[.float .f64 x] w (TextEnds x w) := by
  by_cases h6 : Fl.kind x = 6
  · exact rtext_nan x h6 w
  have hn := Fl.none_kind' x h6
  by_cases h50 : Fl.kind x = 5 ∨ Fl.kind x = 0
  · obtain ⟨s, hd, hm, hk, hb⟩ := Fl.kind_inf h50
    exact rtext_over x s w hn hm hb [105, 110, 102] (by unfold Fl.textL; rw [hk]; cases s <;> rfl) (.inl ⟨rfl, Fl.sub_inf x hd⟩)
  · have h5 : Fl.kind x ≠ 5 := fun h => h50 (.inl h)
    have h0 : Fl.kind x ≠ 0 := fun h => h50 (.inr h)
    obtain ⟨s, m, p, hd⟩ := Fl.kind_num h6 h5 h0
    obtain ⟨g1, g2⟩ := Fl.big_sign hd
    by_cases hb : Fl.geBig x = true
    · exact rtext_over x false w hn (g1 hb) (by rw [hb]; rfl) [98, 105, 103] (by unfold Fl.textL; rw [if_neg h6, if_neg h5, if_neg h0, if_pos hb]; rfl) (.inr ⟨rfl, Fl.sub_num x hd⟩)
    have hb' : Fl.geBig x = false := by simpa using hb
    by_cases hb2 : Fl.leMbig x = true
    · exact rtext_over x true w hn (g2 hb2) (by rw [hb', hb2]; rfl) [98, 105, 103] (by unfold Fl.textL; rw [if_neg h6, if_neg h5, if_neg h0, hb', hb2]; rfl) (.inr ⟨rfl, Fl.sub_num x hd⟩)
    exact rtext_num x w h6 h5 h0 hb' (by simpa using hb2)
end Go.Proofs.YtbjjanmafejlnaaDoor
