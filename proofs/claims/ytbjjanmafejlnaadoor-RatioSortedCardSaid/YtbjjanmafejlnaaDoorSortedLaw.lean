/- RatioSorted: the order of a list (of at most 200 floats) has each place once, none behind one that it stands ahead of, and its last one that is a number is the greatest one: the law returns true for every input. Condition: the three listed tables lie as the program's text lays them (the card ties that). -/
import Derived.Test.YtbjjanmafejlnaaDoorListsLaw
namespace Go.Proofs.YtbjjanmafejlnaaDoor
open Go.RowKit

theorem refL_all (xs : Nat → Nat) : ∀ n x, x < n → x ∈ Lp.refL xs n
  | 0, x, h => by omega
  | n + 1, x, h => by
    rw [Lp.refL, Lp.put_mem]
    by_cases e : x = n
    · exact .inl e
    · exact .inr (refL_all xs n x (by omega))
theorem ref_onto {xs : Nat → Nat} {n x : Nat} (h : x < n) : ∃ i, i < n ∧ refF xs n i = x := by
  obtain ⟨i, hi, e⟩ := List.mem_iff_getElem.1 (refL_all xs n x h)
  rw [Lp.refL_length] at hi
  refine ⟨i, hi, ?_⟩
  unfold refF
  rw [List.getElem?_eq_getElem (by rw [Lp.refL_length]; exact hi)]
  exact e

/-- the last one of the first i that is a number -/
def lst (xs : Nat → Nat) (n : Nat) : Nat → Int
  | 0 => -1
  | i + 1 => if Fl.noneF (xs (refF xs n i)) then lst xs n i else (refF xs n i : Nat)
theorem lst_spec (xs : Nat → Nat) (n : Nat) : ∀ i, (lst xs n i = -1 ∧ ∀ j, j < i → Fl.kind (xs (refF xs n j)) = 6) ∨
    ∃ j, j < i ∧ lst xs n i = (refF xs n j : Nat) ∧ Fl.kind (xs (refF xs n j)) ≠ 6 ∧ ∀ j', j < j' → j' < i → Fl.kind (xs (refF xs n j')) = 6
  | 0 => .inl ⟨rfl, fun j h => by omega⟩
  | i + 1 => by
    unfold lst
    by_cases h : Fl.kind (xs (refF xs n i)) = 6
    · rw [if_pos (by rw [Fl.noneF_iff]; simpa using h)]
      rcases lst_spec xs n i with ⟨h1, h2⟩ | ⟨j, h1, h2, h3, h4⟩
      · refine .inl ⟨h1, fun j hj => ?_⟩
        by_cases e : j = i
        · rw [e]; exact h
        · exact h2 j (by omega)
      · refine .inr ⟨j, by omega, h2, h3, fun j' a b => ?_⟩
        by_cases e : j' = i
        · rw [e]; exact h
        · exact h4 j' a (by omega)
    · rw [if_neg (by rw [Fl.noneF_iff]; simpa using h)]
      exact .inr ⟨i, by omega, rfl, h, fun j' a b => by omega⟩
theorem lst_great {xs : Nat → Nat} {n r : Nat} (hxs : ∀ k, k < n → xs k < 2 ^ 64) (hg : Great xs n r) :
    (lst xs n n = -1 ∧ Fl.noneF r = true) ∨ ∃ l, l < n ∧ lst xs n n = (l : Nat) ∧ Fl.sameF r (xs l) = true := by
  rcases lst_spec xs n n with ⟨h1, h2⟩ | ⟨j, h1, h2, h3, h4⟩
  · refine .inl ⟨h1, ?_⟩
    rw [Fl.noneF_iff]
    rcases hg.2 with ⟨h, _⟩ | ⟨h, ⟨j, hj, e⟩, _⟩
    · simpa using h
    · obtain ⟨i, hi, e2⟩ := ref_onto (xs := xs) hj
      rw [e, ← e2] at h
      exact absurd (h2 i hi) h
  · refine .inr ⟨_, Lp.refL_at_lt h1, h2, hg.same ⟨hxs _ (Lp.refL_at_lt h1), .inr ⟨h3, ⟨_, Lp.refL_at_lt h1, rfl⟩, fun y hy hn => ?_⟩⟩⟩
    obtain ⟨i, hi, e⟩ := ref_onto (xs := xs) hy
    rcases Nat.lt_trichotomy i j with c | c | c
    · have := Lp.refL_at (xs := xs) c h1
      rw [← e]
      rcases this with h | h
      · exact Fl.less_asymm h
      · exact h.1
    · rw [← e, c]; exact Fl.less_irrefl _
    · rw [← e] at hn
      exact absurd (h4 i c hi) hn

/-- what the law asks of two places of the order -/
theorem pair_facts {xs : Nat → Nat} {n k i : Nat} (h1 : k < i) (h2 : i < n) : refF xs n k ≠ refF xs n i ∧ Fl.lessF (xs (refF xs n i)) (xs (refF xs n k)) = false ∧
    (Fl.sameF (xs (refF xs n i)) (xs (refF xs n k)) = true → ¬ refF xs n i < refF xs n k) := by
  have h := Lp.refL_at (xs := xs) h1 h2
  refine ⟨fun e => ?_, ?_, fun hs => ?_⟩
  · have e' : (Lp.refL xs n)[k]?.getD 0 = (Lp.refL xs n)[i]?.getD 0 := e
    rw [e'] at h; exact Lp.T.irr _ _ h
  · rcases h with h | h
    · exact Fl.less_asymm h
    · exact h.1
  · rcases h with h | h
    · unfold Fl.sameF at hs
      rw [show Fl.lessF (xs (refF xs n k)) (xs (refF xs n i)) = true from h] at hs
      simp at hs
    · have := h.2; unfold refF; omega
end Go.Proofs.YtbjjanmafejlnaaDoor

namespace Go.Proofs.YtbjjanmafejlnaaDoor.ratioSorted
open Go.Stop Go.ChangeShapes Go.WideShapes Go.ChangeAt Go.RowKit

def OI (xs : Nat → Nat) (n : Nat) (w : World) (last i : Value) (wr : World) : Prop := ∃ k : Nat, k ≤ n ∧ i = .int .i64 k ∧ last = .int .i64 (lst xs n k) ∧ ∃ q, wr = w.drewN q

set_option maxRecDepth 100000 in
set_option maxHeartbeats 2000000 in
theorem walk (n cap : Nat) (A : Option Addr) (xs : Nat → Nat) (hxs : ∀ k, k < n → xs k < 2 ^ 64) (w : World) (hp : Pow10 w)
    (hc : ∀ k, k < n → ∃ b o, A = some ⟨b, o, none⟩ ∧ b < w.heap.size ∧ w.cell? ⟨b, o + k, none⟩ = some (.float .f64 (xs k))) :
    Calls Tryd.prog 8 #[.slice A n cap] w fun e w' => e = .returned (.bool true) ∧ Below w.heap.size w w' := by
  have hfx := fixed_any w hp
  have HF := Lib.hid hfx; have HX := Lib.hid hxs; have HC := Lib.hid hc; have HP := Lib.hid hp; clear hfx hp hxs hc
  by_cases hbig : 200 < n
  · have d1 : decide ((200 : Int) < (n : Int)) = true := by simp; omega
    clear hbig
    go_enter Tryd.func8, Tryd.ntmps8
    go_wp2_with fail
    refine HF.out.mono ?_
    rintro e w1 ⟨rfl, hb⟩
    have P1 := Lib.hid (pow_stays HP.out hb); have HB := Lib.hid hb; clear hb
    go_wp2_with fail
    refine (fixed_any w1 P1.out).mono ?_
    rintro e w2 ⟨rfl, hb⟩
    have HB2 := Lib.hid (btrans HB.out hb); clear hb
    go_wp2_with fail
    go_ret
    exact ⟨rfl, HB2.out⟩
  · have d1 : decide ((200 : Int) < (n : Int)) = false := by simp; omega
    have hn : n ≤ 200 := by omega
    clear hbig
    go_enter Tryd.func8, Tryd.ntmps8
    go_wp2_with fail
    refine HF.out.mono ?_
    rintro e w1 ⟨rfl, hb⟩
    have c1 := at_floats HC.out hb
    have B1 := Lib.hid hb; have C1 := Lib.hid c1; clear hb c1
    go_wp2_with fail
    refine (order_all n (by omega) xs A cap HX.out _ C1.out).mono ?_
    rintro e w2 ⟨g, rfl, hg1, hg2, hcells, hb⟩
    have c2 := at_floats C1.out hb
    have C2 := Lib.hid c2; have B2 := Lib.hid (btrans B1.out hb); have CG := Lib.hid hcells; clear c2 hb hcells
    have nn : ((n : Int) != (n : Int)) = false := by simp
    go_wp2_with fail
    obtain ⟨wo, rfl⟩ : ∃ wo : World, wo = w2 := ⟨_, rfl⟩
    go_loopw [4, 5, 6] (fun last i _ wr => OI xs n wo last i wr) (fun _ i _ _ => n - (intOf i).toNat)
    case atStart => exact ⟨0, by omega, rfl, rfl, 0, rfl⟩
    case round =>
      obtain ⟨i, hi, rfl, rfl, q, rfl⟩ := hrel
      by_cases hlt : i < n
      · have d2 : decide ((i : Int) < (n : Int)) = true := by simp; omega
        have ci := CG.out i hlt
        have pl := Lp.refL_at_lt (xs := xs) hlt
        obtain ⟨b, o, rfl, hb, _⟩ := C2.out i hlt
        have cells : ∀ y, y < n → wo.cell? ⟨b, o + y, none⟩ = some (.float .f64 (xs y)) := by
          intro y hy
          obtain ⟨b', o', e, _, h⟩ := C2.out y hy
          injection e with e; injection e with e1 e2; subst e1; subst e2; exact h
        have ckn : ∀ k, k < i → wo.cell? ⟨g, k, none⟩ = some (.int .i64 (refF xs n k : Nat)) ∧ wo.cell? ⟨b, o + refF xs n k, none⟩ = some (.float .f64 (xs (refF xs n k))) ∧ refF xs n k < n :=
          fun k hk => ⟨CG.out k (by omega), cells _ (Lp.refL_at_lt (by omega)), Lp.refL_at_lt (by omega)⟩
        have hxi := cells _ pl
        have hpr : ∀ k, k < i → _ := fun k hk => pair_facts (xs := xs) hk hlt
        have hstep : lst xs n (i + 1) = if Fl.noneF (xs (refF xs n i)) then lst xs n i else (refF xs n i : Nat) := rfl
        have CK := Lib.hid ckn; have HPR := Lib.hid hpr; have HST := Lib.hid hstep; have xl : xs (refF xs n i) < 2 ^ 64 := HX.out _ pl
        have XL := Lib.hid xl; clear xl
        have pl' : refF xs n i < n := pl
        have ci' : wo.cell? ⟨g, i, none⟩ = some (.int .i64 (refF xs n i : Nat)) := ci
        have hxi' : wo.cell? ⟨b, o + refF xs n i, none⟩ = some (.float .f64 (xs (refF xs n i))) := hxi
        clear ckn hpr cells ci pl hxi hstep hb
        generalize refF xs n i = y at *
        have y1 : decide ((y : Int) < 0) = false := by simp
        have y2 : decide ((n : Int) ≤ (y : Int)) = false := by simp; omega
        have y3 : (y : Int) < (n : Int) := by omega
        have hi1 : (i : Int) < (n : Int) := by omega
        have y4 : decide (n ≤ y) = false := by simp; omega
        go_wp2_with fail
        go_loopw [6] (fun k wi => ∃ m : Nat, m ≤ i ∧ k = .int .i64 m ∧ ∃ q, wi = wo.drewN q) (fun k _ => i - (intOf k).toNat)
        case atStart => exact ⟨0, by omega, rfl, q, rfl⟩
        case round =>
          clear q
          obtain ⟨m, hm, rfl, q, rfl⟩ := hrel
          by_cases hmi : m < i
          · obtain ⟨c1, c2, c3⟩ := CK.out m hmi
            obtain ⟨p1, p2, p3⟩ := HPR.out m hmi
            have xl2 := HX.out _ c3
            generalize refF xs n m = p at *
            have hl : ∀ w, Calls Tryd.prog 16 #[.float .f64 (xs y), .float .f64 (xs p)] w fun e w' => e = .returned (.bool false) ∧ w = w' := by
              intro w; have h := less_any (xs y) (xs p) XL.out xl2 w; rw [p2] at h; exact h
            have hs : ∀ w, Calls Tryd.prog 10 #[.float .f64 (xs y), .float .f64 (xs p)] w fun e w' => e = .returned (.bool (Fl.sameF (xs y) (xs p))) ∧ w = w' := fun w => same_any (xs y) (xs p) XL.out xl2 w
            have HL := Lib.hid hl; clear hl p2 xl2
            have e0 : ((p : Int) == (y : Int)) = false := by simp; omega
            have e1 : decide ((m : Int) < (i : Int)) = true := by simp; omega
            have e1' : (m : Int) < (i : Int) := by omega
            have e2 : (m : Int) < (n : Int) := by omega
            have e3 : (p : Int) < (n : Int) := by omega
            have e4 : p ≠ y := p1
            clear p1
            cases hsm : Fl.sameF (xs y) (xs p)
            · rw [hsm] at hs
              have HS := Lib.hid hs; clear hs hsm p3
              go_wp2_with fail
              go_quiet (first | (go_at_call 16; exact quiet_add_left (HL.out _)) | (go_at_call 10; exact quiet_add_left (HS.out _)))
              go_wp2_with fail
              refine ⟨⟨m + 1, by omega, by go_num, ?_⟩, by simp [intOf]; omega⟩
              first | exact ⟨_, rfl⟩ | exact ⟨_, World.drewN_drewN _ _ _⟩
            · rw [hsm] at hs
              have p4 := p3 hsm
              have HS := Lib.hid hs; clear hs hsm p3
              have e5 : decide ((y : Int) < (p : Int)) = false := by simp; omega
              have e6 : decide (y < p) = false := by simp; omega
              go_wp2_with fail
              go_quiet (first | (go_at_call 16; exact quiet_add_left (HL.out _)) | (go_at_call 10; exact quiet_add_left (HS.out _)))
              go_wp2_with fail
              refine ⟨⟨m + 1, by omega, by go_num, ?_⟩, by simp [intOf]; omega⟩
              first | exact ⟨_, rfl⟩ | exact ⟨_, World.drewN_drewN _ _ _⟩
          · obtain rfl : m = i := by omega
            have e1 : decide ((m : Int) < (m : Int)) = false := by simp
            have hord : (FloatKind.f64.format.order (xs y) (xs y) == some .eq) = !Fl.noneF (xs y) := by
              show (Ieee.double.order (xs y) (xs y) == some .eq) = !(!(Ieee.double.order (xs y) (xs y) == some .eq))
              rw [Bool.not_not]
            cases hn6 : Fl.noneF (xs y)
            · rw [hn6] at hord
              have hst2 : lst xs n (m + 1) = (y : Nat) := by rw [HST.out, hn6]; rfl
              have HST2 := Lib.hid hst2; clear hst2 hn6
              have ho : (FloatKind.f64.format.order (xs y) (xs y) == some .eq) = true := hord
              clear hord
              go_wp2_with fail
              go_quiet (fail)
              go_wp2_with fail
              refine ⟨⟨m + 1, by omega, by go_num, by rw [HST2.out], ?_⟩, by simp [intOf]; omega⟩
              first | exact ⟨_, rfl⟩ | exact ⟨_, World.drewN_drewN _ _ _⟩
            · rw [hn6] at hord
              have hst2 : lst xs n (m + 1) = lst xs n m := by rw [HST.out, hn6]; rfl
              have HST2 := Lib.hid hst2; clear hst2 hn6
              have ho : (FloatKind.f64.format.order (xs y) (xs y) == some .eq) = false := hord
              clear hord
              go_wp2_with fail
              go_quiet (fail)
              go_wp2_with fail
              refine ⟨⟨m + 1, by omega, by go_num, by rw [HST2.out], ?_⟩, by simp [intOf]; omega⟩
              first | exact ⟨_, rfl⟩ | exact ⟨_, World.drewN_drewN _ _ _⟩
      · obtain rfl : i = n := by omega
        have d2 : decide ((i : Int) < (i : Int)) = false := by simp
        have cg := at_floats C2.out (below_drewN' (Below.refl wo.heap.size wo) q)
        have CGR := Lib.hid cg; clear cg
        go_wp2_with fail
        refine (greatest_any i cap A xs (by omega) HX.out _ (bare_floats CGR.out)).mono ?_
        rintro e w' ⟨r, hr, rfl, rfl⟩
        have hlg := lst_great HX.out hr
        have HR := Lib.hid hr
        have hfin : Below w.heap.size w (wo.drewN q) := below_drewN' B2.out q
        have HF := Lib.hid hfin
        clear hr hfin
        generalize lst xs i i = L at *
        rcases hlg with ⟨rfl, h2⟩ | ⟨l, h1, rfl, h2⟩
        · have hord : (FloatKind.f64.format.order r r == some .eq) = false := by
            have h3 : (Fl.ord r r != some .eq) = true := h2
            unfold Fl.ord at h3
            simpa [FloatKind.format] using h3
          have hord2 : (FloatKind.f64.format.order r r != some .eq) = true := h2
          clear h2
          go_wp2_with fail
          go_ret
          exact ⟨rfl, HF.out⟩
        · obtain ⟨b, o, rfl, hb, hcl0⟩ := C2.out l h1
          have hcl : (wo.drewN q).cell? ⟨b, o + l, none⟩ = some (.float .f64 (xs l)) := hcl0
          have hcl1 := hcl0
          have hs := same_any r (xs l) HR.out.1 (HX.out l h1) (wo.drewN q)
          rw [h2] at hs
          have HS := Lib.hid hs; clear hs h2 hcl0
          have l1 : (l : Int) < (i : Int) := by omega
          have l2 : decide ((l : Int) < 0) = false := by simp
          go_wp2_with fail
          refine HS.out.mono ?_
          rintro e w' ⟨rfl, rfl⟩
          go_wp2_with fail
          go_ret
          exact ⟨rfl, HF.out⟩

theorem contract (H : Type) (enc : TypeId × Value → H) (W : World) (base : Nat) (args : Array Value) (ds gs : List (DataW H)) (before : List MemPlace)
    (hval : ∀ (j : Nat) t v, Tryd.f8.params[j]? = some t → args[j]? = some v → Value.okWide Tryd.prog W .any base t v)
    (hW : DataW.Whole enc Tryd.prog Tryd.f8.params.toList Rows.ratioSortedSpec.vars false W args.toList ds gs before) (hL : laidMetH Tryd.prog Rows.ratioSortedRow.laid W) :
    Calls Tryd.prog 8 args W fun e W' => ∃ v, e = .returned v ∧ Rows.ratioSortedSpec.post enc Tryd.prog Tryd.f8 false true false false W args v W' := by
  have hW' := hW
  obtain ⟨p, q, hA0, hV, rfl, hfz, hnd⟩ := hW
  have hA : DataW.TrodAll enc Tryd.prog W 0 (fun _ => true) true Tryd.f8.params.toList args.toList ds p := hA0
  rw [Tryd.params8] at hA hval
  obtain ⟨v0, vs0, d0, ds0, p0, q0, hargs, rfl, rfl, h0, r0⟩ := trodAll_cons hA
  obtain ⟨rfl, rfl, rfl⟩ := trodAll_nil r0
  obtain rfl : args = #[v0] := by cases args; simp_all
  obtain ⟨rfl, rfl⟩ := trodVars_none hV
  obtain ⟨A0, n0, cap0, rfl⟩ := okWide_slice Tryd.underlying34 (hval 0 34 v0 rfl rfl)
  obtain ⟨xs0, hxs0, hcs0⟩ := open_floats Tryd.underlying34 Tryd.underlying22 (by kernel_rfl) h0
  clear hA0
  simp only [List.append_nil] at hW'
  refine (walk n0 cap0 A0 xs0 hxs0 W (pow10_met hL) hcs0).mono fun e W' ⟨he, hg⟩ => ?_
  subst he
  exact ⟨_, rfl, law_post laidOut (by rw [Tryd.params8]; intro t ht; simp only [List.mem_cons, List.not_mem_nil, or_false] at ht; subst ht; exact ⟨by kernel_rfl, of_decide_eq_true (by kernel_rfl)⟩) rfl (show Tryd.f8.resultTypes = #[4] by kernel_rfl) Tryd.underlying4 hW' hg rfl⟩
theorem reads (os : Os) {H : Type} (enc : TypeId × Value → H) : ∃ places, DataW.whole enc Tryd.prog ((laidWorld os).forCall (fun _ _ => 0) ⟨#[], (#[.slice none 0 0] : Array Value), []⟩).memory Tryd.f8.params.toList Rows.ratioSortedSpec.vars false (#[.slice none 0 0] : Array Value).toList 8 = some ([.nil], [], places) :=
  ⟨[], by kernel_rfl⟩

set_option maxRecDepth 100000 in
theorem lifted (os : Os) (started : os.Started) (H : Type) (enc : TypeId × Value → H) (F : Stop.Interp) :
    ReturnsInHanded {} Tryd.checked os 8 .any ((OpenSpec.ofChange Rows.ratioSortedSpec).preRow enc Tryd.prog Tryd.f8 Rows.ratioSortedRow.domain false Rows.ratioSortedRow.laid) (((OpenSpec.ofChange Rows.ratioSortedSpec).at F).post enc Tryd.prog Tryd.f8 false true false false) := by
  obtain ⟨places, hx⟩ := reads os enc
  refine returnsInHanded_of_row (C := Tryd.checked) (s := OpenSpec.ofChange Rows.ratioSortedSpec) own started (by kernel_rfl) Tryd.func8
    (witness_row_at (enc := enc) (C := Tryd.checked) false (laidWorld os) #[.slice none 0 0] rfl (by kernel_rfl) (by kernel_rfl) (by kernel_rfl)
      (OpenSpec.preRow_of_cond 8 hx (by kernel_rfl) (fun k hk => by cases hk) (by kernel_rfl) (laid_met os _))) ?_
  intro W base args ds gs before hval hW _ _ _ hL _ _
  exact contract H enc W base args ds gs before hval hW hL

theorem said : Rows.RatioSortedSaid :=
  OpenClaim.holds_of_cond 8 Tryd.f8 rfl rfl rfl rfl rfl rfl rfl ⟨rfl, rfl, rfl, rfl, rfl⟩ rfl rfl rfl rfl rfl (by kernel_rfl) Tryd.func8 (by kernel_rfl)
    (of_decide_eq_true (by kernel_rfl)) (by unfold Func.isWrapper; first | (rw [if_pos (by decide +kernel)]; kernel_rfl) | (rw [if_neg (by decide +kernel)]; exact ⟨rfl, rfl⟩))
    (fun os started H enc _ F => by rw [OpenClaim.pre_eq_preRow]; exact lifted os started H enc F)

theorem plain (f : FuncId) (fn : Func) (hf : Tryd.pinned.checked.prog.funcNamed Rows.ratioSortedRow.func = some f) (hfn : Tryd.pinned.checked.prog.funcs[f]? = some fn) :
    false = Tryd.pinned.checked.prog.looks [] ∧ ∀ (j : Nat) t, fn.params[j]? = some t → Tryd.pinned.checked.prog.wantsStandIn t = false := by
  obtain rfl : f = 8 := Option.some.inj ((show Tryd.prog.funcNamed Rows.ratioSortedRow.func = some 8 by kernel_rfl).symm.trans hf) |>.symm
  obtain rfl : fn = Tryd.f8 := (Option.some.inj (Tryd.func8.symm.trans hfn)).symm
  refine ⟨by kernel_rfl, fun j t ht => ?_⟩
  rw [Tryd.params8] at ht
  have hm := Array.mem_of_getElem? ht
  simp only [List.mem_toArray, List.mem_cons, List.not_mem_nil, or_false] at hm
  subst hm
  exact (show Tryd.prog.wantsStandIn 34 = false by kernel_rfl)

theorem card : Rows.RatioSortedCardSaid :=
  Claim7.holds_tied_plain_at .later [] _ _ _ _ said (fun _ h => by cases h) (by kernel_rfl) (fun _ h => by cases h) ratioSorted_row_tie rfl ⟨rfl, rfl⟩ (by kernel_rfl) rfl plain (by kernel_rfl)
end Go.Proofs.YtbjjanmafejlnaaDoor.ratioSorted
