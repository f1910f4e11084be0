/- The walk of ImprintLonger. · ImprintLonger: a block more of a volume makes the text longer, and so does a volume more: the law returns true for every input. No condition. -/
import Derived.Test.YtpcmihgfcaelfaaIO
import Derived.Test.YtpcmihgfcaelfaaIU
import Derived.Test.YtpcmihgfcaelfaaIS
import Derived.Test.YtpcmihgfcaelfaaIP
namespace Go.Proofs.Ytpcmihgfcaelfaa
open Go.RowKit

theorem putV_mem : ∀ (l : List VoD) (v : VoD) (laid : Bool), ∀ x ∈ putV l v laid, x ∈ l ∨ x = v
  | [], v, laid, x, h => by cases laid <;> simp [putV] at h; exact .inr h
  | a :: l, v, laid, x, h => by
    rw [putV_cons, List.mem_append, List.mem_append] at h
    rcases h with (h | h) | h
    · split at h
      · simp at h; exact .inr h
      · simp at h
    · split at h
      · simp at h
      · simp at h; exact .inl (by rw [h]; simp)
    · rcases putV_mem l v _ x h with h | h
      · exact .inl (by simp [h])
      · exact .inr h
theorem withV_small {l : List VoD} {d : VoD} (h : SmallTrees l) (hd : SmallTree d.map) : SmallTrees (withV l d) := fun x hx => by
  unfold withV at hx
  split at hx
  · split at hx
    · simp at hx
    · rcases putV_mem _ _ _ x hx with hx | rfl
      · exact h x hx
      · exact hd
  · simp at hx
theorem new_vol (w : World) : VolV w (.agg #[.int .i64 1000, .int .i64 0, .slice none 0 0, .slice none 0 0, .slice none 0 0]) newV := ⟨_, _, _, rfl, show i64B (1000 : Int) by (unfold i64B; omega), show i64B (0 : Int) by (unfold i64B; omega), zero_node w⟩
theorem new_small : SmallTree newV.map := by unfold SmallTree; decide
theorem vol_mk {w : World} {t : NodeD} {a b c : Value} {i s : Int} (hi : i64B i) (hs : i64B s) (hn : NodeAt w t a b c) : VolV w (.agg #[.int .i64 i, .int .i64 s, a, b, c]) ⟨i, s, t⟩ := ⟨a, b, c, rfl, hi, hs, hn⟩
theorem put_small {l : List PairD} {k : Int} {t : NodeD} (hg : Grown (putP l k 3 false) t) (h : l.length ≤ 240) : SmallTree t := by
  unfold SmallTree
  rw [hg.1]
  have h1 := putP_len l k 3 false
  simp only [Bool.false_eq_true, if_false] at h1
  omega
theorem put_bd {l : List PairD} {k : Int} (h : PBd l) (hk : i64B k) : PBd (putP l k 3 false) := fun x hx => by
  rcases putP_mem _ _ _ _ _ hx with hx | rfl
  · exact h x hx
  · exact ⟨hk, show i64B (3 : Int) by (unfold i64B; omega)⟩
set_option maxRecDepth 100000 in
set_option maxHeartbeats 4000000 in
theorem longer_walk (l : List VoD) (id at_ : Int) (v1 : Value) (w : World) (h1 : VolsAt w v1 l) (hat : i64B at_) : Calls Try.prog 7 #[v1, .int .i64 id, .int .i64 at_] w fun e w' => e = .returned (.bool true) ∧ Below w.heap.size w w' := by
  have HVL := Lib.hid h1; have HAT := Lib.hid hat
  obtain ⟨p1, c1, rfl, _, b2, _⟩ := h1
  obtain ⟨n1, hn1⟩ : ∃ n, l.length = n := ⟨_, rfl⟩
  rw [hn1] at HVL ⊢
  have HN := Lib.hid hn1
  clear hn1 b2 hat
  have HB := Lib.hid (show Below w.heap.size w w from Below.refl _ _)
  go_enter Try.func7, Try.ntmps7
  go_wp2_with fail
  refine (rfind_any l id _ _ HVL.out).mono ?_
  rintro e w1 ⟨v, rfl, hv, hb⟩
  obtain ⟨⟨d, okb⟩, hfd⟩ : ∃ x, findD l id = x := ⟨_, rfl⟩
  rw [hfd] at hv ⊢
  simp only at hv ⊢
  obtain ⟨a, b, c, rfl, i1, i2, hn⟩ := hv
  obtain ⟨pa, na, ca, pb, nb, cb, pc, nc, cc, rfl, rfl, rfl⟩ := node_slices hn
  obtain ⟨di, hdi⟩ : ∃ q, d.id = q := ⟨_, rfl⟩
  obtain ⟨ds, hds⟩ : ∃ q, d.size = q := ⟨_, rfl⟩
  rw [hdi] at i1 ⊢; rw [hds] at i2 ⊢
  have HFD := Lib.hid hfd; have HD := Lib.hid (And.intro hdi hds); have HI := Lib.hid (And.intro i1 i2)
  obtain ⟨W1, hW1⟩ : ∃ W, w1.alloc (.cells #[.int .i64 di, .int .i64 ds, .slice pa na ca, .slice pb nb cb, .slice pc nc cc] 45) = W := ⟨_, rfl⟩
  have hb1 : Below w1.heap.size w1 W1 := by rw [← hW1]; exact (Below.refl _ _).alloc (Nat.le_refl _) _
  have HX := Lib.hid (show VBox w1.heap.size (.int .i64 di) (.int .i64 ds) (.slice pa na ca) (.slice pb nb cb) (.slice pc nc cc) W1 by rw [← hW1]; exact ⟨by simp, by simp, by simp, by simp, by simp⟩)
  have HND := Lib.hid (hn.keep (keeps_below hb1))
  have HB := Lib.hid (btrans (btrans HB.out hb) hb1)
  have hW1' := Lib.hid hW1
  clear hb hb1 hn hfd hdi hds i1 i2 hW1
  go_upto_region 2 with fail
  rw [hW1'.out]
  clear hW1'
  go_wp2_with fail
  refine (fixed_any _).mono ?_
  rintro e w2 ⟨rfl, hb⟩
  have HB := Lib.hid (btrans HB.out hb); have HX := Lib.hid (HX.out.below hb); have HND := Lib.hid (HND.out.keep (keeps_below hb))
  clear hb
  go_wp2_with fail
  refine (rsmall18_any l _ _ (HVL.out.keep (keeps_below HB.out))).mono ?_
  rintro e w3 ⟨rfl, hb⟩
  have HB := Lib.hid (btrans HB.out hb); have HX := Lib.hid (HX.out.below hb); have HND := Lib.hid (HND.out.keep (keeps_below hb))
  clear hb
  cases hs1 : smallVs l with
  | false =>
    clear hs1
    go_wp2_with fail
    refine (fixed_any _).mono ?_
    rintro e wx ⟨rfl, hb⟩
    have HB := Lib.hid (btrans HB.out hb)
    clear hb
    go_wp2_with fail
    go_ret
    exact ⟨rfl, HB.out⟩
  | true =>
  have HS1 := Lib.hid hs1; have HL1 := Lib.hid (smallVs_trees hs1)
  clear hs1
  go_wp2_with fail
  refine (rmay18_any l _ _ (HVL.out.keep (keeps_below HB.out)) HL1.out).mono ?_
  rintro e w4 ⟨rfl, hb⟩
  have HB := Lib.hid (btrans HB.out hb); have HX := Lib.hid (HX.out.below hb); have HND := Lib.hid (HND.out.keep (keeps_below hb))
  clear hb
  obtain ⟨x0, x1, x2, x3, x4⟩ := HX.out
  have hbad : (mayVB l = true ∧ n1 ≤ 60 ∧ okb = true ∧ 0 ≤ at_ ∧ at_ < ds) ∨ (mayVB l = false ∨ (mayVB l = true ∧ (60 : Int) < (n1 : Int)) ∨ (mayVB l = true ∧ ¬ (60 : Int) < (n1 : Int) ∧ okb = false) ∨ (mayVB l = true ∧ ¬ (60 : Int) < (n1 : Int) ∧ okb = true ∧ at_ < 0) ∨ (mayVB l = true ∧ ¬ (60 : Int) < (n1 : Int) ∧ okb = true ∧ ¬ at_ < 0 ∧ ds ≤ at_)) := by
    cases mayVB l <;> cases okb <;> simp <;> omega
  rcases hbad with ⟨hm, h60, rfl, ha0, ha1⟩ | hbad
  case inr =>
    rcases hbad with hm | ⟨hm, h60⟩ | ⟨hm, h60, rfl⟩ | ⟨hm, h60, rfl, ha⟩ | ⟨hm, h60, rfl, ha, ha1⟩
    all_goals
      rw [hm]
      clear hm
      go_wp2_with fail
      refine (fixed_any _).mono ?_
      rintro e wx ⟨rfl, hb⟩
      have HB := Lib.hid (btrans HB.out hb)
      clear hb
      go_wp2_with fail
      go_ret
      exact ⟨rfl, HB.out⟩
  case inl =>
  have h60i : ¬ (60 : Int) < (n1 : Int) := by omega
  have ha2 : ¬ at_ < 0 := by omega
  have ha3 : ¬ ds ≤ at_ := by omega
  rw [hm]
  have HM := Lib.hid hm; have H60 := Lib.hid h60; have HA := Lib.hid (And.intro ha0 ha1)
  clear hm h60 ha0 ha1
  go_wp2_with fail
  clear h60i ha2 ha3 x0 x1 x2 x3 x4
  have HDL := Lib.hid (show d ∈ l by have := find_yes (l := l) (id := id) (by rw [HFD.out]); rw [HFD.out] at this; exact this)
  have HSV := Lib.hid (show smallV d = true by have := HS1.out; unfold smallVs at this; simp only [Bool.and_eq_true, List.all_eq_true] at this; exact this.1 d HDL.out)
  have HPL := Lib.hid (small_right HSV.out ((mayVB_iff.1 HM.out).1 d HDL.out))
  have HPB := Lib.hid (pairsN_bd _ HND.out)
  refine (rwith_any l newV _ _ _ (HVL.out.keep (keeps_below HB.out)) (new_vol _) HL1.out new_small).mono ?_
  rintro e w5 ⟨vm, rfl, hov, hb⟩
  have HB := Lib.hid (btrans HB.out hb); have HX := Lib.hid (HX.out.below hb); have HND := Lib.hid (HND.out.keep (keeps_below hb)); have HMO := Lib.hid hov.at
  clear hov hb
  go_wp2_with fail
  refine (rfind_any l 1000 _ _ (HVL.out.keep (keeps_below HB.out))).mono ?_
  rintro e w6 ⟨v, rfl, hv, hb⟩
  obtain ⟨a, b, c, rfl, _, _, hn⟩ := hv
  obtain ⟨qa, ma, ea, qb, mb, eb, qc, mc, ec, rfl, rfl, rfl⟩ := node_slices hn
  obtain ⟨W6, hW6⟩ : ∃ W, w6.alloc (.cells #[.int .i64 (findD l 1000).1.id, .int .i64 (findD l 1000).1.size, .slice qa ma ea, .slice qb mb eb, .slice qc mc ec] 45) = W := ⟨_, rfl⟩
  have hb6 : Below w6.heap.size w6 W6 := by rw [← hW6]; exact (Below.refl _ _).alloc (Nat.le_refl _) _
  have hbb := btrans hb hb6
  have HB := Lib.hid (btrans HB.out hbb); have HX := Lib.hid (HX.out.below hbb); have HND := Lib.hid (HND.out.keep (keeps_below hbb)); have HMO := Lib.hid (HMO.out.keep (keeps_below hbb))
  have hW6' := Lib.hid hW6
  clear hn hb hb6 hbb hW6
  go_upto_region 6 with fail
  rw [hW6'.out]
  clear hW6'
  obtain ⟨last, hlast⟩ : ∃ q, (findD l 1000).2 = q := ⟨_, rfl⟩
  rw [hlast]
  have HLA := Lib.hid hlast
  clear hlast
  obtain ⟨x0, x1, x2, x3, x4⟩ := HX.out
  go_wp2_with fail
  refine (rpairs_any d.map _ _ _ _ HND.out (by have := HPL.out; omega)).mono ?_
  rintro e w7 ⟨vp, rfl, hown, hb⟩
  have HB := Lib.hid (btrans HB.out hb); have HX := Lib.hid (HX.out.below hb); have HMO := Lib.hid (HMO.out.keep (keeps_below hb))
  have HPA := Lib.hid (pairs_of_row hown)
  clear hown hb x0 x1 x2 x3 x4
  go_wp2_with fail
  refine (rget16_any (pairsN d.map) at_ _ _ HPA.out).mono ?_
  rintro e _ ⟨rfl, rfl⟩
  obtain ⟨is, his⟩ : ∃ q, (getP (pairsN d.map) at_).2 = q := ⟨_, rfl⟩
  rw [his]
  have HIS := Lib.hid his
  clear his
  go_upto_region 8 with fail
  have hdr : Below w7.heap.size w7 w7.drew := (Below.refl _ _).drew
  have HS0 := Lib.hid (show w7.drew.cell? ⟨w1.heap.size, 0, none⟩ = some (.int .i64 di) ∧ w7.drew.cell? ⟨w1.heap.size, 1, none⟩ = some (.int .i64 ds) from ⟨cell_stays hdr HX.out.1, cell_stays hdr HX.out.2.1⟩)
  have HPA := Lib.hid (HPA.out.keep (keeps_below hdr)); have HMO := Lib.hid (HMO.out.keep (keeps_below hdr)); have HB := Lib.hid (btrans HB.out hdr)
  clear hdr
  go_region_held3 (fun w' => w'.cell? ⟨w1.heap.size, 0, none⟩ = some (.int .i64 di) ∧ w'.cell? ⟨w1.heap.size, 1, none⟩ = some (.int .i64 ds))
    (first | with_reducible exact HS0.out | with_reducible exact HS8.out | with_reducible exact HS9.out | with_reducible exact HSA.out)
    (first | ((with_reducible refine (rput16_any (pairsN d.map) at_ 3 _ _ HPA.out (by have := HPL.out; omega)).mono ?_); rintro e w8 ⟨vq, rfl, hown, hb⟩; have HS8 := Lib.hid (And.intro (cell_stays hb HS0.out.1) (cell_stays hb HS0.out.2)); have HB8 := Lib.hid (btrans HB.out hb); have HM8 := Lib.hid (HMO.out.keep (keeps_below hb)); have HP8 := Lib.hid (pairs_of_row hown); clear hown hb) | ((with_reducible refine (rof_any (putP (pairsN d.map) at_ 3 false) _ _ HP8.out (by have h1 := putP_len (pairsN d.map) at_ 3 false; have := HPL.out; simp only [Bool.false_eq_true, if_false] at h1; omega) (put_bd HPB.out HAT.out)).mono ?_); rintro e w9 ⟨t, ta, tb, tc, rfl, hg, hn, hb⟩; have HS9 := Lib.hid (And.intro (cell_stays hb HS8.out.1) (cell_stays hb HS8.out.2)); have HB9 := Lib.hid (btrans HB8.out hb); have HM9 := Lib.hid (HM8.out.keep (keeps_below hb)); have HG := Lib.hid hg; have HN9 := Lib.hid (hn.keep (fun _ _ hv => (mask_cell.1 hv).2)); clear hg hn hb) | ((with_reducible refine (rwith_any l ⟨di, ds, t⟩ _ _ _ (HVL.out.keep (keeps_below HB9.out)) (vol_mk HI.out.1 HI.out.2 HN9.out) HL1.out (put_small HG.out HPL.out)).mono ?_); rintro e wA ⟨vw, rfl, hov, hb⟩; have HSA := Lib.hid (And.intro (cell_stays hb HS9.out.1) (cell_stays hb HS9.out.2)); have HBA := Lib.hid (btrans HB9.out hb); have HMA := Lib.hid (HM9.out.keep (keeps_below hb)); have HWA := Lib.hid hov.at; clear hov hb))
  have HN60 := Lib.hid (show l.length ≤ 60 by rw [HN.out]; exact H60.out)
  have HMOR := Lib.hid (show last = false → (textV l).length < (textV (withV l newV)).length from fun h => longer_more HM.out HN60.out (by rw [HLA.out, h]))
  have HPUT := Lib.hid (show is = false → (textV l).length < (textV (withV l ⟨di, ds, t⟩)).length from fun h => (longer_put (d2 := ⟨di, ds, t⟩) (at_ := at_) HM.out HN60.out HDL.out HPL.out HA.out.1 (by rw [HD.out.2]; exact HA.out.2) (by rw [HIS.out, h]) HD.out.1.symm HD.out.2.symm HG.out).1)
  have HSM := Lib.hid (withV_small HL1.out new_small)
  have HSW := Lib.hid (withV_small (d := ⟨di, ds, t⟩) HL1.out (put_small HG.out HPL.out))
  have HB := HBA
  go_wp2_with fail
  refine (pText_any l _ _ (HVL.out.keep (keeps_below HB.out)) HL1.out).mono ?_
  rintro e wB ⟨rfl, hb⟩
  have HB := Lib.hid (btrans HB.out hb); have HMB := Lib.hid (HMA.out.keep (keeps_below hb)); have HWB := Lib.hid (HWA.out.keep (keeps_below hb))
  clear hb
  obtain ⟨S, hS⟩ : ∃ S : ByteArray, ⟨(textV l).toArray⟩ = S := ⟨_, rfl⟩
  have HSL := Lib.hid (show S.size = (textV l).length by rw [← hS]; exact ba_size _)
  rw [hS]
  clear hS
  cases last with
  | true =>
    cases is with
    | true =>
      go_wp2_with fail
      go_ret
      exact ⟨rfl, HB.out⟩
    | false =>
      go_wp2_with fail
      refine (pText_any (withV l ⟨di, ds, t⟩) _ _ HWB.out HSW.out).mono ?_
      rintro e wC ⟨rfl, hb⟩
      have HB := Lib.hid (btrans HB.out hb)
      clear hb
      obtain ⟨S2, hS2⟩ : ∃ S : ByteArray, ⟨(textV (withV l ⟨di, ds, t⟩)).toArray⟩ = S := ⟨_, rfl⟩
      have hlt : (S.size : Int) < (S2.size : Int) := by rw [HSL.out, ← hS2, ba_size]; have := HPUT.out (by trivial); omega
      rw [hS2]
      clear hS2
      go_wp2_with fail
      go_ret
      exact ⟨rfl, HB.out⟩
  | false =>
    go_wp2_with fail
    refine (pText_any (withV l newV) _ _ HMB.out HSM.out).mono ?_
    rintro e wC ⟨rfl, hb⟩
    have HB := Lib.hid (btrans HB.out hb); have HWB := Lib.hid (HWB.out.keep (keeps_below hb))
    clear hb
    obtain ⟨S2, hS2⟩ : ∃ S : ByteArray, ⟨(textV (withV l newV)).toArray⟩ = S := ⟨_, rfl⟩
    have hlt : (S.size : Int) < (S2.size : Int) := by rw [HSL.out, ← hS2, ba_size]; have := HMOR.out (by trivial); omega
    rw [hS2]
    clear hS2
    cases is with
    | true =>
      go_wp2_with fail
      go_ret
      exact ⟨rfl, HB.out⟩
    | false =>
      go_wp2_with fail
      refine (pText_any (withV l ⟨di, ds, t⟩) _ _ HWB.out HSW.out).mono ?_
      rintro e wD ⟨rfl, hb⟩
      have HB := Lib.hid (btrans HB.out hb)
      clear hb
      obtain ⟨S3, hS3⟩ : ∃ S : ByteArray, ⟨(textV (withV l ⟨di, ds, t⟩)).toArray⟩ = S := ⟨_, rfl⟩
      have hlt2 : (S.size : Int) < (S3.size : Int) := by rw [HSL.out, ← hS3, ba_size]; have := HPUT.out (by trivial); omega
      rw [hS3]
      clear hS3
      go_wp2_with fail
      go_ret
      exact ⟨rfl, HB.out⟩
end Go.Proofs.Ytpcmihgfcaelfaa
namespace Go.Proofs.Ytpcmihgfcaelfaa.imprintLonger
open Go.Stop Go.ChangeShapes Go.WideShapes Go.ChangeAt Go.RowKit

theorem walk (W : World) (l : List VoD) (id at_ : Int) {v1 : Value} (h1 : VolsAt W v1 l) (_hc : -9223372036854775808 ≤ id) (_hc2 : id ≤ 9223372036854775807) (ha : -9223372036854775808 ≤ at_) (ha2 : at_ ≤ 9223372036854775807) :
    Calls Try.prog 7 #[v1, .int .i64 id, .int .i64 at_] W fun e W' => e = .returned (.bool true) ∧ Below W.heap.size W W' := longer_walk l id at_ v1 W h1 ⟨ha, ha2⟩

set_option maxRecDepth 100000 in
theorem contract (H : Type) (enc : TypeId × Value → H) (W : World) (base : Nat) (args : Array Value) (ds gs : List (DataW H)) (before : List MemPlace)
    (hval : ∀ (j : Nat) t v, Try.f7.params[j]? = some t → args[j]? = some v → Value.okWide Try.prog W .any base t v)
    (hW : DataW.Whole enc Try.prog Try.f7.params.toList Rows.imprintLongerSpec.vars false W args.toList ds gs before) :
    Calls Try.prog 7 args W fun e W' => ∃ v, e = .returned v ∧ Rows.imprintLongerSpec.post enc Try.prog Try.f7 false true false false W args v W' := by
  have hW' := hW
  obtain ⟨p, q, hA0, hV, rfl, hfz, hnd⟩ := hW
  have hA : DataW.TrodAll enc Try.prog W 0 (fun _ => true) true Try.f7.params.toList args.toList ds p := hA0
  rw [Try.params7] at hA hval
  obtain ⟨v0, vs0, d0, ds0, p0, q0, hargs, rfl, rfl, h0, r0⟩ := trodAll_cons hA
  obtain ⟨v1, vs1, d1, ds1, p1, q1, rfl, rfl, rfl, h1, r1⟩ := trodAll_cons r0
  obtain ⟨v2, vs2, d2, ds2, p2, q2, rfl, rfl, rfl, h2, r2⟩ := trodAll_cons r1
  obtain ⟨rfl, rfl, rfl⟩ := trodAll_nil r2
  obtain rfl : args = #[v0, v1, v2] := by cases args; simp_all
  obtain ⟨rfl, rfl⟩ := trodVars_none hV
  obtain ⟨a0, ha0⟩ := open_volsA (hval 0 22 v0 rfl rfl) h0
  obtain ⟨a1, rfl, rfl, rfl, wa1⟩ := open_int Try.underlying3 (hval 1 3 v1 rfl rfl) h1
  obtain ⟨a2, rfl, rfl, rfl, wa2⟩ := open_int Try.underlying3 (hval 2 3 v2 rfl rfl) h2
  clear hA0
  simp only [List.append_nil] at hW'
  refine (walk W a0 a1 a2 ha0 (int_bounds wa1).1 (int_bounds wa1).2 (int_bounds wa2).1 (int_bounds wa2).2).mono fun e W' ⟨he, hg⟩ => ?_
  subst he
  exact ⟨_, rfl, law_post laidOut (by rw [Try.params7]; intro t ht; simp only [List.mem_cons, List.not_mem_nil, or_false] at ht; rcases ht with rfl | rfl | rfl <;> exact ⟨by kernel_rfl, of_decide_eq_true (by kernel_rfl)⟩) rfl (show Try.f7.resultTypes = #[4] by kernel_rfl) Try.underlying4 hW' hg rfl⟩
theorem reads (os : Os) {H : Type} (enc : TypeId × Value → H) : ∃ places, DataW.whole enc Try.prog ((laidWorld os).forCall (fun _ _ => 0) ⟨#[], (#[.slice none 0 0, .int .i64 0, .int .i64 0] : Array Value), []⟩).memory Try.f7.params.toList Rows.imprintLongerSpec.vars false (#[.slice none 0 0, .int .i64 0, .int .i64 0] : Array Value).toList 8 = some ([.nil, .lit (.int .i64 0), .lit (.int .i64 0)], [], places) :=
  ⟨[], by kernel_rfl⟩

set_option maxRecDepth 100000 in
theorem lifted (os : Os) (started : os.Started) (H : Type) (enc : TypeId × Value → H) (F : Stop.Interp) :
    ReturnsInHanded {} Try.checked os 7 .any ((OpenSpec.ofChange Rows.imprintLongerSpec).preRow enc Try.prog Try.f7 Rows.imprintLongerRow.domain false Rows.imprintLongerRow.laid) (((OpenSpec.ofChange Rows.imprintLongerSpec).at F).post enc Try.prog Try.f7 false true false false) := by
  obtain ⟨places, hx⟩ := reads os enc
  refine returnsInHanded_of_row (C := Try.checked) (s := OpenSpec.ofChange Rows.imprintLongerSpec) own started (by kernel_rfl) Try.func7
    (witness_row_at (enc := enc) (C := Try.checked) false (laidWorld os) #[.slice none 0 0, .int .i64 0, .int .i64 0] rfl (by kernel_rfl) (by kernel_rfl) (by kernel_rfl)
      (OpenSpec.preRow_of_cond 8 hx (by kernel_rfl) (fun k hk => by cases hk) (by kernel_rfl) (laid_nil _))) ?_
  intro W base args ds gs before hval hW _ _ _ _ _ _
  exact contract H enc W base args ds gs before hval hW

theorem said : Rows.ImprintLongerSaid :=
  OpenClaim.holds_of_cond 7 Try.f7 rfl rfl rfl rfl rfl rfl rfl ⟨rfl, rfl, rfl, rfl, rfl⟩ rfl rfl rfl rfl rfl (by kernel_rfl) Try.func7 (by kernel_rfl)
    (of_decide_eq_true (by kernel_rfl)) (by unfold Func.isWrapper; first | (rw [if_pos (by decide +kernel)]; kernel_rfl) | (rw [if_neg (by decide +kernel)]; exact ⟨rfl, rfl⟩))
    (fun os started H enc _ F => by rw [OpenClaim.pre_eq_preRow]; exact lifted os started H enc F)

end Go.Proofs.Ytpcmihgfcaelfaa.imprintLonger
