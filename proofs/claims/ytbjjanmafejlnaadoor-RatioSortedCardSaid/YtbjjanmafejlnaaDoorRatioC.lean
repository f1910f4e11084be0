/- The walks of ratio.Text and of the reference's Text: of every float both return the same text; only new memory is written. The table of powers of ten must lie as the program lays it. -/
import Derived.Test.YtbjjanmafejlnaaDoorRatioB
import Derived.Test.YtbjjanmafejlnaaDoorFlText
import Derived.Test.YtbjjanmafejlnaaDoorDigits
import Derived.Test.YtbjjanmafejlnaaDoorShelf
namespace Go.Proofs.YtbjjanmafejlnaaDoor
open Go.RowKit Go.Sort

abbrev Pow10 (w : World) : Prop := Lib.TabIs Tryd.prog w "internal/strconv.uint64pow10" .u64 Lib.pow10Tab

theorem floor_any (z : Nat) {s : Bool} {k : Nat} {q : Int} (hz : Fl.D z = .number s k q) (w : World) :
    Calls Tryd.prog 25 #[.float .f64 z] w fun e w' => e = .returned (.float .f64 (FloatKind.f64.encode ((Fl.D z).integral .down))) ∧ w = w' := by
  have hb : ∀ w, (callFunc 37 #[.float .f64 z]).run Tryd.prog w = .ok (.value (.float .f64 (FloatKind.f64.encode ((Fl.D z).integral .down)))) w := by
    intro w
    rw [run_callFunc_extern Tryd.func37 (by kernel_rfl) (by kernel_rfl) (by kernel_rfl) (e := Extern.MathFloor.toIntegral "math.archFloor" .down) (by kernel_rfl)]
    have hz' : FloatKind.f64.decode z = .number s k q := hz
    have e : Extern.MathFloor.toIntegral "math.archFloor" .down #[.float .f64 z] = (match FloatKind.f64.decode z with
      | .nan s t => if FloatKind.f64.format.quiet t = t then pure (.float .f64 z) else do
        let kept ← choose (.extern "math.Floor,Ceil,Trunc,RoundToEven.signallingNaN kept" 2)
        pure (.float .f64 (if kept == 1 then z else FloatKind.f64.encode (.nan s (FloatKind.f64.format.quiet t))))
      | d => pure (.float .f64 (FloatKind.f64.encode (d.integral .down)))) := rfl
    rw [e, hz', hz]
    rfl
  have HZ := Lib.hid hz; clear hz
  go_enter Tryd.func25, Tryd.ntmps25
  go_wp2
  go_ret
  exact ⟨rfl, rfl⟩

def TextEnds (x : Nat) (w : World) (e : Ending) (w' : World) : Prop := e = .returned (.string ⟨(Fl.textL x).toArray⟩) ∧ Below w.heap.size w w'

theorem text_kind (x : Nat) (hx : x < 2 ^ 64) (w : World) (k : Int) (hk : Fl.kind x = k) (h : k = 6 ∨ k = 5 ∨ k = 0) : Calls Tryd.prog 14 #[.float .f64 x] w (TextEnds x w) := by
  have hc := kind_any x hx
  rw [hk] at hc
  have HC := Lib.hid hc
  have ht : Fl.textL x = if k = 6 then [110, 97, 110] else if k = 5 then [105, 110, 102] else [45, 105, 110, 102] := by
    unfold Fl.textL; rw [hk]
    rcases h with rfl | rfl | rfl <;> rfl
  have HT := Lib.hid ht
  clear ht hc hk hx
  rcases h with rfl | rfl | rfl
  all_goals
    go_enter Tryd.func14, Tryd.ntmps14
    go_wp2_with (go_at_call 24; (with_reducible refine (HC.out _).mono ?_); rintro e w' ⟨rfl, rfl⟩)
    go_ret
    exact ⟨by rw [HT.out]; rfl, Below.refl _ _⟩

theorem text_big (x : Nat) (hx : x < 2 ^ 64) (w : World) (k : Int) (hk : Fl.kind x = k) (h6 : k ≠ 6) (h5 : k ≠ 5) (h0 : k ≠ 0) (hb : Fl.geBig x = true ∨ Fl.geBig x = false ∧ Fl.leMbig x = true) :
    Calls Tryd.prog 14 #[.float .f64 x] w (TextEnds x w) := by
  have hc := kind_any x hx
  rw [hk] at hc
  have HC := Lib.hid hc
  have g6 : (k == 6) = false := by simpa using h6
  have g5 : (k == 5) = false := by simpa using h5
  have g0 : (k == 0) = false := by simpa using h0
  rcases hb with hb | ⟨hb, hb2⟩
  · have ht : Fl.textL x = [98, 105, 103] := by unfold Fl.textL; rw [hk, if_neg h6, if_neg h5, if_neg h0, if_pos hb]
    have hg : (FloatKind.f64.format.order x 4696837146684686336 == some Ordering.gt || FloatKind.f64.format.order x 4696837146684686336 == some Ordering.eq) = true := hb
    have HT := Lib.hid ht
    clear ht hc hk hx hb h6 h5 h0
    go_enter Tryd.func14, Tryd.ntmps14
    go_wp2_with (go_at_call 24; (with_reducible refine (HC.out _).mono ?_); rintro e w' ⟨rfl, rfl⟩)
    go_ret
    exact ⟨by rw [HT.out]; rfl, Below.refl _ _⟩
  · have ht : Fl.textL x = [45, 98, 105, 103] := by unfold Fl.textL; rw [hk, if_neg h6, if_neg h5, if_neg h0, hb, hb2]; rfl
    have hg : (FloatKind.f64.format.order x 4696837146684686336 == some Ordering.gt || FloatKind.f64.format.order x 4696837146684686336 == some Ordering.eq) = false := hb
    have hg2 : (FloatKind.f64.format.order x 13920209183539462144 == some Ordering.lt || FloatKind.f64.format.order x 13920209183539462144 == some Ordering.eq) = true := hb2
    have HT := Lib.hid ht
    clear ht hc hk hx hb hb2 h6 h5 h0
    go_enter Tryd.func14, Tryd.ntmps14
    go_wp2_with (go_at_call 24; (with_reducible refine (HC.out _).mono ?_); rintro e w' ⟨rfl, rfl⟩)
    go_ret
    exact ⟨by rw [HT.out]; rfl, Below.refl _ _⟩

theorem fmt_at (m : Int) (h0 : 0 ≤ m) (h1 : m ≤ 9223372036854775807) (w : World) (hp : Pow10 w) :
    Calls Tryd.prog 26 #[.int .i64 m, .int .i64 10] w fun e w' => e = .returned (.string ⟨(Lib.decDigits m.toNat).toArray⟩) ∧ Below w.heap.size w w' := by
  refine (Tryd.strconv_FormatInt_10 m (by omega) h1 w hp).mono ?_
  rintro e w' ⟨rfl, k, os, rfl⟩
  refine ⟨?_, (below_drewN' (Below.refl _ _) k).trans (below_grow (w.drewN k) os)⟩
  unfold Lib.itoa; rw [if_neg (by omega)]
theorem repeatL_one (b : UInt8) : ∀ c, Lib.repeatL [b] c = List.replicate c b
  | 0 => rfl
  | c + 1 => by show [b] ++ _ = _; rw [repeatL_one b c]; rfl
theorem rep_at (c : Int) (h0 : 0 ≤ c) (h1 : c ≤ 4) (w : World) :
    Calls Tryd.prog 27 #[.string ⟨#[48]⟩, .int .i64 c] w fun e w' => e = .returned (.string ⟨(List.replicate c.toNat 48).toArray⟩) ∧ Below w.heap.size w w' := by
  obtain ⟨n, rfl⟩ := Int.eq_ofNat_of_zero_le h0
  refine (Tryd.strings_Repeat ⟨#[48]⟩ n w (by omega) ?_).mono ?_
  · show 1 * n ≤ _; omega
  · rintro e w' ⟨rfl, hb⟩
    exact ⟨by rw [show (⟨#[48]⟩ : ByteArray).data.toList = [48] from rfl, repeatL_one]; rfl, hb⟩

theorem replicate_append (L : List UInt8) : (⟨Array.replicate (4 - L.length) 48⟩ : ByteArray) ++ ⟨L.toArray⟩ = ⟨(Fl.pad4 L).toArray⟩ := by
  rw [show Array.replicate (4 - L.length) (48 : UInt8) = (List.replicate (4 - L.length) (48 : UInt8)).toArray from by simp, ba_append]; rfl

theorem dot_str (S : List UInt8) (d : Nat) (h : S.length - 3 = d) : (⟨S.toArray⟩ : ByteArray).extract 0 d ++ ⟨#[46]⟩ ++ (⟨S.toArray⟩ : ByteArray).extract d S.length = ⟨(Fl.dotted S).toArray⟩ := by
  subst h
  rw [Fl.dotted_eq]
  apply ByteArray.ext
  rw [← Array.toList_inj]
  simp only [ByteArray.data_append, ByteArray.data_extract, Array.toList_append, Array.toList_extract, List.extract_eq_take_drop]
  simp
  exact List.take_of_length_le (by simp)

set_option maxHeartbeats 1000000 in
theorem text_num (x : Nat) (hx : x < 2 ^ 64) (w : World) (hp : Pow10 w) (k : Int) (hk : Fl.kind x = k) (h6 : k ≠ 6) (h5 : k ≠ 5) (h0 : k ≠ 0) (hb : Fl.geBig x = false) (hb2 : Fl.leMbig x = false) :
    Calls Tryd.prog 14 #[.float .f64 x] w (TextEnds x w) := by
  have hc := kind_any x hx
  rw [hk] at hc
  have HC := Lib.hid hc
  have g6 : (k == 6) = false := by simpa using h6
  have g5 : (k == 5) = false := by simpa using h5
  have g0 : (k == 0) = false := by simpa using h0
  have hnum := Fl.kind_num (x := x) (by rw [hk]; exact h6) (by rw [hk]; exact h5) (by rw [hk]; exact h0)
  have ht : Fl.textL x = (if Fl.minusF x then [45] else []) ++ Fl.dotted (Fl.pad4 (Lib.decDigits (Fl.floorD (Fl.D (Fl.zOf x))).natAbs)) := by
    unfold Fl.textL; rw [hk, if_neg h6, if_neg h5, if_neg h0, hb, hb2]; rfl
  have hg : (FloatKind.f64.format.order x 4696837146684686336 == some Ordering.gt || FloatKind.f64.format.order x 4696837146684686336 == some Ordering.eq) = false := hb
  have hg2 : (FloatKind.f64.format.order x 13920209183539462144 == some Ordering.lt || FloatKind.f64.format.order x 13920209183539462144 == some Ordering.eq) = false := hb2
  have hl := Fl.less_zero x hnum
  have hless := less_any x 0 hx (by omega)
  rw [hl] at hless
  have HLESS := Lib.hid hless
  obtain ⟨s, m, p, hd⟩ := hnum
  obtain ⟨e1, e2, t, kk, q, e3, e4, e5⟩ := Fl.num_facts hd hb hb2
  have hmul := fun w => run_float_arith (P := Tryd.prog) w .mul 22 .f64 x 4652007308841189376 (Fl.yOf x) e1
  have hadd := fun w => run_float_arith (P := Tryd.prog) w .add 22 .f64 (Fl.yOf x) 4602678819172646912 (Fl.zOf x) e2
  have hfl := floor_any (Fl.zOf x) e3
  have HFL := Lib.hid hfl
  have hconv := fun w => run_convert_float_int (P := Tryd.prog) w 22 2 .f64 .i64 _ _ (by kernel_rfl) Tryd.underlying2 (Fl.floor_conv (Fl.zOf x) e3 e4 e5)
  have hbd := Fl.floorD_bound e3 e4 e5
  have HT := Lib.hid ht
  have HP := Lib.hid hp
  clear ht hc hk hx hb hb2 h6 h5 h0 hl hless hd e1 e2 e3 e4 e5 hfl hp
  generalize Fl.minusF x = mn at *
  generalize Fl.floorD (Fl.D (Fl.zOf x)) = N at *
  generalize Fl.yOf x = y at *
  generalize Fl.zOf x = z at *
  obtain ⟨hb1, hb2⟩ := hbd
  obtain ⟨M, hM⟩ : ∃ M : Nat, N.natAbs = M := ⟨_, rfl⟩
  rw [hM] at HT
  have hlen := decDigits_len M (by omega)
  have hlen1 : 1 ≤ (Lib.decDigits M).length := by rw [Lib.decDigits]; split <;> simp
  by_cases hneg : N < 0
  all_goals
    go_enter Tryd.func14, Tryd.ntmps14
    go_wp2_with (first | (go_at_call 24; (with_reducible refine (HC.out _).mono ?_); rintro e w' ⟨rfl, rfl⟩) | (go_at_call 25; (with_reducible refine (HFL.out _).mono ?_); rintro e w' ⟨rfl, rfl⟩))
    refine (fmt_at _ (by omega) (by omega) _ HP.out).mono ?_
    rintro e w1 ⟨rfl, hb⟩
    first
    | rw [show (-N).toNat = M from by omega]
    | rw [show N.toNat = M from by omega]
    clear hM HP
    generalize Lib.decDigits M = L at *
    by_cases hl3 : L.length ≤ 3
    · go_wp2_with fail
      refine (rep_at _ (by omega) (by omega) _).mono ?_
      rintro e w2 ⟨rfl, hb2⟩
      go_wp2_with fail
      rw [replicate_append, show (((4 - L.length : Nat) : Int) + (L.length : Int) - 3) = (((Fl.pad4 L).length - 3 : Nat) : Int) from by rw [Fl.pad4_len]; omega]
      have hbb := hb.trans (hb2.mono hb.size)
      have hS1 : (Fl.pad4 L).length ≤ 20 := by rw [Fl.pad4_len]; omega
      have hS2 : 4 ≤ (Fl.pad4 L).length := by rw [Fl.pad4_len]; omega
      have hS3 : 3 ≤ (Fl.pad4 L).length := by rw [Fl.pad4_len]; omega
      generalize Fl.pad4 L = S at *
      generalize hd : S.length - 3 = d at *
      have hd1 : d ≤ S.length := by omega
      have HD := Lib.hid hd
      clear hd hb hb2 hl3
      go_quiet (fail)
      go_wp2_with fail
      refine (HLESS.out _).mono ?_
      rintro e w3 ⟨rfl, rfl⟩
      have hfin : ∀ wz : World, Below w.heap.size w wz → ∀ s : ByteArray, s = ⟨((if mn then [45] else []) ++ Fl.dotted S).toArray⟩ → TextEnds x w (.returned (.string s)) wz := by
        rintro wz hwz s rfl
        exact ⟨by rw [HT.out], hwz⟩
      have HF := Lib.hid hfin; clear hfin
      cases mn
      · go_wp2_with fail
        go_ret
        exact HF.out _ (below_drewN' hbb _) _ (by rw [dot_str _ _ HD.out]; rfl)
      · go_wp2_with fail
        go_ret
        exact HF.out _ (below_drewN' hbb _) _ (by rw [dot_str _ _ HD.out]; exact ba_append [45] _)
    · go_wp2_with fail
      have hpad : Fl.pad4 L = L := by unfold Fl.pad4; rw [show 4 - L.length = 0 from by omega]; rfl
      rw [hpad] at HT
      have hS2 : 4 ≤ L.length := by omega
      rw [show ((L.length : Int) - 3) = ((L.length - 3 : Nat) : Int) from by omega]
      generalize hd : L.length - 3 = d at *
      have hd1 : d ≤ L.length := by omega
      have HD := Lib.hid hd
      clear hd hl3 hpad
      go_quiet (fail)
      go_wp2_with fail
      refine (HLESS.out _).mono ?_
      rintro e w3 ⟨rfl, rfl⟩
      have hfin : ∀ wz : World, Below w.heap.size w wz → ∀ s : ByteArray, s = ⟨((if mn then [45] else []) ++ Fl.dotted L).toArray⟩ → TextEnds x w (.returned (.string s)) wz := by
        rintro wz hwz s rfl
        exact ⟨by rw [HT.out], hwz⟩
      have HF := Lib.hid hfin; clear hfin
      cases mn
      · go_wp2_with fail
        go_ret
        exact HF.out _ (below_drewN' hb _) _ (by rw [dot_str _ _ HD.out]; rfl)
      · go_wp2_with fail
        go_ret
        exact HF.out _ (below_drewN' hb _) _ (by rw [dot_str _ _ HD.out]; exact ba_append [45] _)

theorem text_any (x : Nat) (hx : x < 2 ^ 64) (w : World) (hp : Pow10 w) : Calls Tryd.prog 14 #[.float .f64 x] w (TextEnds x w) := by
  by_cases h6 : Fl.kind x = 6
  · exact text_kind x hx w _ h6 (by simp)
  by_cases h5 : Fl.kind x = 5
  · exact text_kind x hx w _ h5 (by simp)
  by_cases h0 : Fl.kind x = 0
  · exact text_kind x hx w _ h0 (by simp)
  by_cases hb : Fl.geBig x = true
  · exact text_big x hx w _ rfl h6 h5 h0 (.inl hb)
  have hb' : Fl.geBig x = false := by simpa using hb
  by_cases hb2 : Fl.leMbig x = true
  · exact text_big x hx w _ rfl h6 h5 h0 (.inr ⟨hb', hb2⟩)
  exact text_num x hx w hp _ rfl h6 h5 h0 hb' (by simpa using hb2)
end Go.Proofs.YtbjjanmafejlnaaDoor
