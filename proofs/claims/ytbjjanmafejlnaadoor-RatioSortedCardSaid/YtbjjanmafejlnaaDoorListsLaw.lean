/- RatioLists: the greatest one of any floats, and their order (of at most 300), is what the reference gives: the law returns true for every input. Condition: the three listed tables lie as the program's text lays them (the card ties that). -/
import Derived.Test.YtbjjanmafejlnaaDoorListC
import Derived.Deep.Slices
namespace Go.Proofs.YtbjjanmafejlnaaDoor
open Go.Stop Go.ChangeShapes Go.WideShapes Go.ChangeAt Go.RowKit

theorem trod_flts {H : Type} {enc : TypeId × Value → H} {P : Program} {w : World} {base : Nat} {spare : Nat → Bool} {held : Bool} {fuel : Nat} {t : TypeId} {cs : List Value} {x : DataW H × List MemPlace} {k : FloatKind}
    (ht : P.underlying t = some (.float k)) (h : DataW.trod enc P w base spare held fuel t cs = some x) : ∃ n, cs = [.float k n] ∧ x = (.lit (.float k n), []) ∧ (Lit.float k n).wf = true := by
  cases fuel with
  | zero => simp [DataW.trod] at h
  | succ n =>
    unfold DataW.trod at h
    rw [ht] at h
    split at h <;> simp_all
theorem trod_flt {H : Type} {enc : TypeId × Value → H} {P : Program} {w : World} {base : Nat} {spare : Nat → Bool} {held : Bool} {fuel : Nat} {t : TypeId} {v : Value} {x : DataW H × List MemPlace}
    (ht : P.underlying t = some (.float .f64)) (h : DataW.trod enc P w base spare held fuel t [v] = some x) : ∃ n, v = .float .f64 n ∧ n < 2 ^ 64 := by
  obtain ⟨n, h1, _, h2⟩ := trod_flts ht h
  exact ⟨n, List.head_eq_of_cons_eq h1, float_lt h2⟩

theorem open_floats {H : Type} {enc : TypeId × Value → H} {P : Program} {w : World} {spare : Nat → Bool} {held : Bool} {t e : TypeId} {A : Option Addr} {n cap : Nat} {d : DataW H} {ps : List MemPlace}
    (ht : P.underlying t = some (.slice e)) (he : P.underlying e = some (.float .f64)) (hc : P.cellsOf e = 1) (h : DataW.Trod enc P w 0 spare held t (.slice A n cap) d ps) :
    ∃ xs : Nat → Nat, (∀ k, k < n → xs k < 2 ^ 64) ∧ ∀ k, k < n → ∃ b o, A = some ⟨b, o, none⟩ ∧ b < w.heap.size ∧ w.cell? ⟨b, o + k, none⟩ = some (.float .f64 (xs k)) := by
  obtain ⟨fuel, h⟩ := h
  have h' : DataW.trod enc P w 0 spare held fuel t [.slice A n cap] = some (d, ps) := h
  rcases Go.Deep.open_slice1 ht hc h' with ⟨hcs, _⟩ | ⟨a, len, cap', m, n', V, D, Pl, hcs, _, hl, _, hm, _, hcell⟩
  · injection hcs with hcs; injection hcs with _ h2 _
    subst h2
    exact ⟨fun _ => 0, fun k hk => by omega, fun k hk => by omega⟩
  · injection hcs with hcs; injection hcs with h1 h2 h3
    subst h1; subst h2; subst h3
    have hnm : n ≤ m := by rw [hm]; split <;> omega
    have hx : ∀ k, k < n → ∃ x, V k = .float .f64 x ∧ x < 2 ^ 64 := fun k hk => trod_flt he (hcell k (by omega)).2
    refine ⟨fun k => if hk : k < n then (hx k hk).choose else 0, fun k hk => ?_, fun k hk => ?_⟩
    · simp only [dif_pos hk]; exact (hx k hk).choose_spec.2
    · simp only [dif_pos hk]
      have hck := (hcell k (by omega)).1
      rw [(hx k hk).choose_spec.1] at hck
      obtain ⟨b, o, sp⟩ := a
      have hspot : sp = none := by simpa [Addr.add] using World.cell?_spot (hcell 0 (by omega)).1
      subst hspot
      rw [Go.WideShapes.add_plain] at hck
      exact ⟨b, o, rfl, World.block_lt_of_cell? w _ hck, hck⟩

theorem at_floats {n : Nat} {A : Option Addr} {xs : Nat → Nat} {w w' : World} (h : ∀ k, k < n → ∃ b o, A = some ⟨b, o, none⟩ ∧ b < w.heap.size ∧ w.cell? ⟨b, o + k, none⟩ = some (.float .f64 (xs k))) (hb : Below w.heap.size w w') :
    ∀ k, k < n → ∃ b o, A = some ⟨b, o, none⟩ ∧ b < w'.heap.size ∧ w'.cell? ⟨b, o + k, none⟩ = some (.float .f64 (xs k)) := by
  intro k hk
  obtain ⟨b, o, h1, h2, h3⟩ := h k hk
  exact ⟨b, o, h1, Nat.lt_of_lt_of_le h2 hb.size, (hb.cell (p := ⟨b, o + k, none⟩) h2).trans h3⟩
theorem bare_floats {n : Nat} {A : Option Addr} {xs : Nat → Nat} {w : World} (h : ∀ k, k < n → ∃ b o, A = some ⟨b, o, none⟩ ∧ b < w.heap.size ∧ w.cell? ⟨b, o + k, none⟩ = some (.float .f64 (xs k))) :
    ∀ k, k < n → ∃ b o, A = some ⟨b, o, none⟩ ∧ w.cell? ⟨b, o + k, none⟩ = some (.float .f64 (xs k)) := by
  intro k hk
  obtain ⟨b, o, h1, h2, h3⟩ := h k hk
  exact ⟨b, o, h1, h3⟩
end Go.Proofs.YtbjjanmafejlnaaDoor

namespace Go.Proofs.YtbjjanmafejlnaaDoor.ratioLists
open Go.Stop Go.ChangeShapes Go.WideShapes Go.ChangeAt Go.RowKit

set_option maxHeartbeats 1000000 in
theorem walk (n cap : Nat) (A : Option Addr) (xs : Nat → Nat) (hxs : ∀ k, k < n → xs k < 2 ^ 64) (w : World) (hp : Pow10 w)
    (hc : ∀ k, k < n → ∃ b o, A = some ⟨b, o, none⟩ ∧ b < w.heap.size ∧ w.cell? ⟨b, o + k, none⟩ = some (.float .f64 (xs k))) :
    Calls Tryd.prog 7 #[.slice A n cap] w fun e w' => e = .returned (.bool true) ∧ Below w.heap.size w w' := by
  have hfx := fixed_any w hp
  have HF := Lib.hid hfx; have HX := Lib.hid hxs; have HC := Lib.hid hc; clear hfx hp hxs hc
  by_cases hbig : 300 < n
  · have d1 : decide ((300 : Int) < (n : Int)) = true := by simp; omega
    clear hbig
    go_enter Tryd.func7, Tryd.ntmps7
    go_wp2_with fail
    refine HF.out.mono ?_
    rintro e w1 ⟨rfl, hb⟩
    have HB := Lib.hid hb; clear hb
    go_wp2_with fail
    go_ret
    exact ⟨rfl, HB.out⟩
  · have d1 : decide ((300 : Int) < (n : Int)) = false := by simp; omega
    have hn : n ≤ 300 := by omega
    clear hbig
    go_enter Tryd.func7, Tryd.ntmps7
    go_wp2_with fail
    refine HF.out.mono ?_
    rintro e w1 ⟨rfl, hb⟩
    have c1 := at_floats HC.out hb
    have B1 := Lib.hid hb; have C1 := Lib.hid c1; clear hb c1
    go_wp2_with fail
    refine (greatest_any n cap A xs (by omega) HX.out w1 (bare_floats C1.out)).mono ?_
    rintro e w' ⟨r, hr, rfl, rfl⟩
    have G1 := Lib.hid hr; clear hr
    go_wp2_with fail
    refine (rgreatest_any n cap A xs (by omega) HX.out w1 (bare_floats C1.out)).mono ?_
    rintro e w' ⟨s, hs, rfl, rfl⟩
    have G2 := Lib.hid hs; clear hs
    have hsame := rsame_any r s w1.drew
    rw [G1.out.same G2.out] at hsame
    have HS := Lib.hid hsame; clear hsame
    go_wp2_with fail
    refine HS.out.mono ?_
    rintro e w' ⟨rfl, rfl⟩
    have c2 := at_floats C1.out (Below.refl w1.heap.size w1).drew
    have C2 := Lib.hid c2; clear c2
    go_wp2_with fail
    refine (order_all n hn xs A cap HX.out _ C2.out).mono ?_
    rintro e w2 ⟨g, rfl, hg1, hg2, hcells, hb⟩
    have c3 := at_floats C2.out hb
    have C3 := Lib.hid c3; have B2 := Lib.hid (btrans B1.out (((Below.refl w1.heap.size w1).drew).trans hb)); have CG := Lib.hid hcells; clear c3 hb hcells
    go_wp2_with fail
    refine (rorder_any n cap A xs hn _ C3.out).mono ?_
    rintro e w3 ⟨v, ⟨i, _, _, g2, cap2, rfl, hown, hb⟩, rfl⟩
    have hi := ints_any n n n cap2 (some ⟨g, 0, none⟩) (some ⟨g2, 0, none⟩) (fun k => (refF xs n k : Nat)) (fun k => (refF xs n k : Nat)) (by omega) (by omega) w3
      (fun k hk => ⟨g, 0, rfl, by rw [Nat.zero_add]; exact (hb.cell (p := ⟨g, k, none⟩) hg2).trans (CG.out k hk)⟩)
      (fun k hk => ⟨g2, 0, rfl, by rw [Nat.zero_add]; exact getD_tmp _ k (by rw [Lp.refL_length]; exact hk) rfl hown⟩)
    rw [intsEq_yes (fun _ _ => rfl)] at hi
    have HI := Lib.hid hi; have B3 := Lib.hid (btrans B2.out hb); clear hi hb hown
    go_wp2_with fail
    refine HI.out.mono ?_
    rintro e w' ⟨rfl, q, rfl⟩
    go_wp2_with fail
    go_ret
    exact ⟨rfl, below_drewN' B3.out q⟩

theorem contract (H : Type) (enc : TypeId × Value → H) (W : World) (base : Nat) (args : Array Value) (ds gs : List (DataW H)) (before : List MemPlace)
    (hval : ∀ (j : Nat) t v, Tryd.f7.params[j]? = some t → args[j]? = some v → Value.okWide Tryd.prog W .any base t v)
    (hW : DataW.Whole enc Tryd.prog Tryd.f7.params.toList Rows.ratioListsSpec.vars false W args.toList ds gs before) (hL : laidMetH Tryd.prog Rows.ratioListsRow.laid W) :
    Calls Tryd.prog 7 args W fun e W' => ∃ v, e = .returned v ∧ Rows.ratioListsSpec.post enc Tryd.prog Tryd.f7 false true false false W args v W' := by
  have hW' := hW
  obtain ⟨p, q, hA0, hV, rfl, hfz, hnd⟩ := hW
  have hA : DataW.TrodAll enc Tryd.prog W 0 (fun _ => true) true Tryd.f7.params.toList args.toList ds p := hA0
  rw [Tryd.params7] at hA hval
  obtain ⟨v0, vs0, d0, ds0, p0, q0, hargs, rfl, rfl, h0, r0⟩ := trodAll_cons hA
  obtain ⟨rfl, rfl, rfl⟩ := trodAll_nil r0
  obtain rfl : args = #[v0] := by cases args; simp_all
  obtain ⟨rfl, rfl⟩ := trodVars_none hV
  obtain ⟨A0, n0, cap0, rfl⟩ := okWide_slice Tryd.underlying34 (hval 0 34 v0 rfl rfl)
  obtain ⟨xs0, hxs0, hcs0⟩ := open_floats Tryd.underlying34 Tryd.underlying22 (by kernel_rfl) h0
  clear hA0
  simp only [List.append_nil] at hW'
  refine (walk n0 cap0 A0 xs0 hxs0 W (pow10_met hL) hcs0).mono fun e W' ⟨he, hg⟩ => ?_
  subst he
  exact ⟨_, rfl, law_post laidOut (by rw [Tryd.params7]; intro t ht; simp only [List.mem_cons, List.not_mem_nil, or_false] at ht; subst ht; exact ⟨by kernel_rfl, of_decide_eq_true (by kernel_rfl)⟩) rfl (show Tryd.f7.resultTypes = #[4] by kernel_rfl) Tryd.underlying4 hW' hg rfl⟩
theorem reads (os : Os) {H : Type} (enc : TypeId × Value → H) : ∃ places, DataW.whole enc Tryd.prog ((laidWorld os).forCall (fun _ _ => 0) ⟨#[], (#[.slice none 0 0] : Array Value), []⟩).memory Tryd.f7.params.toList Rows.ratioListsSpec.vars false (#[.slice none 0 0] : Array Value).toList 8 = some ([.nil], [], places) :=
  ⟨[], by kernel_rfl⟩

set_option maxRecDepth 100000 in
theorem lifted (os : Os) (started : os.Started) (H : Type) (enc : TypeId × Value → H) (F : Stop.Interp) :
    ReturnsInHanded {} Tryd.checked os 7 .any ((OpenSpec.ofChange Rows.ratioListsSpec).preRow enc Tryd.prog Tryd.f7 Rows.ratioListsRow.domain false Rows.ratioListsRow.laid) (((OpenSpec.ofChange Rows.ratioListsSpec).at F).post enc Tryd.prog Tryd.f7 false true false false) := by
  obtain ⟨places, hx⟩ := reads os enc
  refine returnsInHanded_of_row (C := Tryd.checked) (s := OpenSpec.ofChange Rows.ratioListsSpec) own started (by kernel_rfl) Tryd.func7
    (witness_row_at (enc := enc) (C := Tryd.checked) false (laidWorld os) #[.slice none 0 0] rfl (by kernel_rfl) (by kernel_rfl) (by kernel_rfl)
      (OpenSpec.preRow_of_cond 8 hx (by kernel_rfl) (fun k hk => by cases hk) (by kernel_rfl) (laid_met os _))) ?_
  intro W base args ds gs before hval hW _ _ _ hL _ _
  exact contract H enc W base args ds gs before hval hW hL

theorem said : Rows.RatioListsSaid :=
  OpenClaim.holds_of_cond 7 Tryd.f7 rfl rfl rfl rfl rfl rfl rfl ⟨rfl, rfl, rfl, rfl, rfl⟩ rfl rfl rfl rfl rfl (by kernel_rfl) Tryd.func7 (by kernel_rfl)
    (of_decide_eq_true (by kernel_rfl)) (by unfold Func.isWrapper; first | (rw [if_pos (by decide +kernel)]; kernel_rfl) | (rw [if_neg (by decide +kernel)]; exact ⟨rfl, rfl⟩))
    (fun os started H enc _ F => by rw [OpenClaim.pre_eq_preRow]; exact lifted os started H enc F)

theorem plain (f : FuncId) (fn : Func) (hf : Tryd.pinned.checked.prog.funcNamed Rows.ratioListsRow.func = some f) (hfn : Tryd.pinned.checked.prog.funcs[f]? = some fn) :
    false = Tryd.pinned.checked.prog.looks [] ∧ ∀ (j : Nat) t, fn.params[j]? = some t → Tryd.pinned.checked.prog.wantsStandIn t = false := by
  obtain rfl : f = 7 := Option.some.inj ((show Tryd.prog.funcNamed Rows.ratioListsRow.func = some 7 by kernel_rfl).symm.trans hf) |>.symm
  obtain rfl : fn = Tryd.f7 := (Option.some.inj (Tryd.func7.symm.trans hfn)).symm
  refine ⟨by kernel_rfl, fun j t ht => ?_⟩
  rw [Tryd.params7] at ht
  have hm := Array.mem_of_getElem? ht
  simp only [List.mem_toArray, List.mem_cons, List.not_mem_nil, or_false] at hm
  subst hm
  exact (show Tryd.prog.wantsStandIn 34 = false by kernel_rfl)

theorem card : Rows.RatioListsCardSaid :=
  Claim7.holds_tied_plain_at .later [] _ _ _ _ said (fun _ h => by cases h) (by kernel_rfl) (fun _ h => by cases h) ratioLists_row_tie rfl ⟨rfl, rfl⟩ (by kernel_rfl) rfl plain (by kernel_rfl)
end Go.Proofs.YtbjjanmafejlnaaDoor.ratioLists
