/- The walk of the reference's Order: the places put in one by one; only new memory is written. -/
import Derived.Test.YtbjjanmafejlnaaDoorRatioB
import Derived.Test.YtbjjanmafejlnaaDoorListP
import Derived.Outline
import Derived.Deep.Cut
import Derived.Deep.OwnRows
namespace Go.Proofs.YtbjjanmafejlnaaDoor
open Go.RowKit Go.Sort

theorem infoInt : (Tryd.prog.info? 3).map (fun i => (i.zero, i.size, i.bytes)) = some (some (.int .i64 0), 1, 8) := by kernel_rfl

def nats (l : List Nat) : List Value := l.map fun x => .int .i64 (x : Nat)
theorem nats_length (l : List Nat) : (nats l).length = l.length := by simp [nats]
theorem nats_one (l : List Nat) : ∀ u ∈ nats l, u.oneCell' = true := by
  intro u hu; obtain ⟨x, _, rfl⟩ := List.mem_map.1 hu; rfl
theorem nats_get (l : List Nat) (j : Nat) (h : j < l.length) : (nats l)[j]? = some (.int .i64 ((l[j]?.getD 0 : Nat))) := by simp [nats, h]

/-- v holds the places of the first k -/
def ORel (xs : Nat → Nat) (w : World) (n k : Nat) (v i : Value) (wr : World) : Prop :=
  k ≤ n ∧ i = .int .i64 k ∧ ∃ g cap, v = .slice (some ⟨g, 0, none⟩) k cap ∧ wr.ownsRow w.heap.size 3 1 v k (nats (Lp.refL xs k)) ∧ Below w.heap.size w wr

theorem add_at (g j : Nat) : (⟨g, 0, none⟩ : Addr).add j = ⟨g, j, none⟩ := by unfold Addr.add; split <;> simp_all
theorem getD_tmp (l : List Nat) (j : Nat) (hj : j < l.length) {g cap n : Nat} {wr : World} {B : Nat} {v : Value} (hv : v = .slice (some ⟨g, 0, none⟩) n cap) (hown : wr.ownsRow B 3 1 v n (nats l)) :
    wr.cell? ⟨g, j, none⟩ = some (.int .i64 ((l[j]?.getD 0 : Nat))) := by
  subst hv
  have h := hown.cells (g := g) rfl j _ (nats_get l j hj)
  have e : (⟨g, 0, none⟩ : Addr).add j = ⟨g, j, none⟩ := by unfold Addr.add; split <;> simp_all
  rwa [e] at h


structure Put4 (w : World) (xs : Nat → Nat) (k : Nat) (v3 : Value) (w3 : World) : Prop where
  fin : ∃ g cap, v3 = .slice (some ⟨g, 0, none⟩) (k + 1) cap ∧ w3.ownsRow w.heap.size 3 1 v3 (k + 1) (nats (Lp.refL xs (k + 1))) ∧ Below w.heap.size w w3
structure Put3 (w : World) (xs : Nat → Nat) (g cp k m : Nat) (AD : Addr) (B : Nat) (v2 : Value) (w2 : World) : Prop where
  own3 : w2.ownsRow B 3 1 v2 (m + 1) (nats ((Lp.refL xs k).take m) ++ [.int .i64 k])
  len3 : (nats ((Lp.refL xs k).drop m)).length = (k - m) * 1
  news3 : ∀ j u, (nats ((Lp.refL xs k).drop m))[j]? = some u → w2.cell? (AD.add j) = some u
  max3 : m + 1 + (k - m) ≤ maxLen
  byt3 : (m + 1 + (k - m)) * 8 ≤ 140737488355328
  base3 : B ≤ w2.heap.size
  step3 : ∀ v3 w3, w3.ownsRow B 3 1 v3 (m + 1 + (k - m)) (nats ((Lp.refL xs k).take m) ++ [.int .i64 k] ++ nats ((Lp.refL xs k).drop m)) → w2.grownBy w3 v2.ownBlock → Put4 w xs k v3 w3
structure Put2 (w : World) (xs : Nat → Nat) (g cp k m : Nat) (AD : Addr) (B : Nat) (v1 : Value) (w1 : World) : Prop where
  own2 : (w1.alloc (.cells #[.int .i64 k] 3)).ownsRow B 3 1 v1 m (nats ((Lp.refL xs k).take m))
  news2 : ∀ j u, [Value.int .i64 k][j]? = some u → (w1.alloc (.cells #[.int .i64 k] 3)).cell? ((⟨w1.heap.size, 0, none⟩ : Addr).add j) = some u
  one2 : ∀ u ∈ [Value.int .i64 k], u.oneCell' = true
  max2 : m + 1 ≤ maxLen
  byt2 : (m + 1) * 8 ≤ 140737488355328
  base2 : B ≤ (w1.alloc (.cells #[.int .i64 k] 3)).heap.size
  step2 : ∀ v2 w2, w2.ownsRow B 3 1 v2 (m + 1) (nats ((Lp.refL xs k).take m) ++ [.int .i64 k]) → (w1.alloc (.cells #[.int .i64 k] 3)).grownBy w2 v1.ownBlock → Put3 w xs g cp k m AD B v2 w2
structure Put1 (w : World) (xs : Nat → Nat) (g cp k m : Nat) (AD : Addr) (W : World) : Prop where
  own1 : (W.alloc (.cells #[] 3)).ownsRow W.heap.size 3 1 (.slice (some ⟨W.heap.size, 0, none⟩) 0 0) 0 []
  len1 : (nats ((Lp.refL xs k).take m)).length = m * 1
  news1 : ∀ j u, (nats ((Lp.refL xs k).take m))[j]? = some u → (W.alloc (.cells #[] 3)).cell? ((⟨g, 0, none⟩ : Addr).add j) = some u
  max1 : 0 + m ≤ maxLen
  byt1 : (0 + m) * 8 ≤ 140737488355328
  base1 : W.heap.size ≤ (W.alloc (.cells #[] 3)).heap.size
  step1 : ∀ v1 w1, w1.ownsRow W.heap.size 3 1 v1 (0 + m) ([] ++ nats ((Lp.refL xs k).take m)) → (W.alloc (.cells #[] 3)).grownBy w1 (some W.heap.size) → Put2 w xs g cp k m AD W.heap.size v1 w1

theorem own_mono {w : World} {B B' : Nat} {e : TypeId} {size n : Nat} {v : Value} {xs : List Value} (h : B ≤ B') (ho : w.ownsRow B' e size v n xs) : w.ownsRow B e size v n xs := by
  refine ⟨ho.1, ?_⟩
  rcases ho.2 with h1 | ⟨g, cap, cur, h1, h2, h3⟩
  · exact .inl h1
  · exact .inr ⟨g, cap, cur, h1, Nat.le_trans h h2, h3⟩
theorem put_world {w W : World} {xs : Nat → Nat} {g cp k m n : Nat} (hown : W.ownsRow w.heap.size 3 1 (.slice (some ⟨g, 0, none⟩) k cp) k (nats (Lp.refL xs k))) (hb : Below w.heap.size w W)
    (hm : m ≤ k) (hn : n ≤ 300) (hk : k < n) (hl : (Lp.refL xs k).length = k) (hst : Lp.stop xs k (Lp.refL xs k) k = m) {AD : Addr} (hAD : m < k → AD = ⟨g, m, none⟩) : Put1 w xs g cp k m AD W := by
  have hg := hown.lt g rfl
  have hcell : ∀ {w2 : World}, w2.ownsRow w.heap.size 3 1 (.slice (some ⟨g, 0, none⟩) k cp) k (nats (Lp.refL xs k)) → ∀ j, j < k → w2.cell? ⟨g, j, none⟩ = some (.int .i64 (((Lp.refL xs k)[j]?.getD 0 : Nat))) :=
    fun h j hj => getD_tmp _ j (by rw [hl]; exact hj) rfl h
  refine ⟨World.ownsRow_made W #[] 0 (Nat.le_refl _) (by unfold maxLen; omega) rfl, by rw [nats_length, List.length_take, hl]; omega, ?_, by unfold maxLen; omega, by omega, by simp, ?_⟩
  · intro j u hu
    have hj : j < m := by
      have := (List.getElem?_eq_some_iff.1 hu).1
      rw [nats_length, List.length_take] at this; omega
    rw [nats_get _ j (by rw [List.length_take, hl]; omega), List.getElem?_take_of_lt hj] at hu
    rw [add_at, ← hu]
    exact hcell (hown.alloc _) j (by omega)
  intro v1 w1 hown1 hg1
  simp only [Nat.zero_add, List.nil_append] at hown1
  have hold1 := (hown.alloc (.cells #[] 3)).kept hg1 (.inr (by simp [Value.ownBlock]; omega))
  have hb1 : Below w.heap.size w w1 := (hb.alloc hb.size _).grown hg1 (by have := hb.size; simp; omega) (fun k e => by cases e; exact hb.size)
  have hne1 : v1.ownBlock ≠ some g := by
    intro e
    have h1 := hown1.lt g e
    omega
  refine ⟨hown1.alloc _, ?_, by simp [Value.oneCell'], by unfold maxLen; omega, by omega, by have := hg1.size; simp at this ⊢; omega, ?_⟩
  · intro j u hu
    match j, hu with
    | 0, hu =>
      simp at hu; subst hu
      rw [add_at, World.cell?_alloc_at _ _ _ _ rfl]; rfl
  intro v2 w2 hown2 hg2
  have hold2 := (hold1.alloc (.cells #[.int .i64 k] 3)).kept hg2 (.inr (by simp only [Value.ownBlock]; exact fun e => hne1 e.symm))
  have hb2 : Below w.heap.size w w2 := (hb1.alloc hb1.size _).grown hg2 (by have := hb1.size; simp; omega) (fun k e => Nat.le_trans hb.size (hown1.lt k e).1)
  refine ⟨hown2, by rw [nats_length, List.length_drop, hl]; omega, ?_, by unfold maxLen; omega, by omega, by have h1 := hg1.size; have h2 := hg2.size; simp at h1 h2; omega, ?_⟩
  · intro j u hu
    have hj : j < k - m := by
      have := (List.getElem?_eq_some_iff.1 hu).1
      rw [nats_length, List.length_drop] at this; omega
    rw [nats_get _ j (by rw [List.length_drop, hl]; omega), List.getElem?_drop] at hu
    rw [hAD (by omega), ← hu]
    have := hcell hold2 (m + j) (by omega)
    rw [show (⟨g, m, none⟩ : Addr).add j = ⟨g, m + j, none⟩ by unfold Addr.add; split <;> simp_all]
    exact this
  intro v3 w3 hown3 hg3
  have hb3 : Below w.heap.size w w3 := hb2.grown hg3 hb2.size (fun k e => Nat.le_trans hb.size (hown2.lt k e).1)
  have e1 : m + 1 + (k - m) = k + 1 := by omega
  have e2 : nats ((Lp.refL xs k).take m) ++ [.int .i64 k] ++ nats ((Lp.refL xs k).drop m) = nats (Lp.refL xs (k + 1)) := by
    rw [Lp.refL, Lp.put, hl, hst]; simp [nats]
  rw [e1, e2] at hown3
  refine ⟨?_⟩
  rcases hown3.2 with ⟨_, h⟩ | ⟨g', cap', _, h, _⟩
  · omega
  · exact ⟨g', cap', h, own_mono hb.size hown3, hb3⟩

set_option maxRecDepth 100000 in
set_option maxHeartbeats 1000000 in
theorem rorder_any (n cap : Nat) (A : Option Addr) (xs : Nat → Nat) (hn : n ≤ 300) (w : World)
    (hc : ∀ k, k < n → ∃ b o, A = some ⟨b, o, none⟩ ∧ b < w.heap.size ∧ w.cell? ⟨b, o + k, none⟩ = some (.float .f64 (xs k))) :
    Calls Tryd.prog 23 #[.slice A n cap] w fun e w' => ∃ v, (∃ i, ORel xs w n n v i w') ∧ e = .returned v := by
  have HC := Lib.hid hc
  clear hc
  obtain ⟨i0, hi, hz0, hz1, hz2⟩ := info_parts infoInt
  go_enter Tryd.func23, Tryd.ntmps23
  go_wp2_with fail
  go_loopw [3, 4, 5, 6] (fun v i _ _ wr => ∃ k, ORel xs w n k v i wr) (fun _ i _ _ _ => n - (intOf i).toNat)
  case atStart =>
    refine ⟨0, by omega, rfl, w.heap.size, 0, rfl, ?_, (Below.refl _ _).alloc (Nat.le_refl _) _⟩
    exact World.ownsRow_made w #[] 0 (Nat.le_refl _) (by unfold maxLen; omega) rfl
  case round =>
    obtain ⟨k, hk, rfl, g, cp, rfl, hown, hbel⟩ := hrel
    have HO := Lib.hid hown; have HB := Lib.hid hbel
    clear hown hbel
    have hlen := Lp.refL_length xs k
    have HL := Lib.hid hlen; clear hlen
    have hcp : k ≤ cp := by
      rcases HO.out.2 with ⟨h, _⟩ | ⟨_, _, _, h, _, _, h2, _⟩
      · cases h
      · injection h with _ _ h; omega
    by_cases hlt : k < n
    · have d1 : decide ((k : Int) < (n : Int)) = true := by simp; omega
      obtain ⟨b, o, rfl, hbw, hcell0⟩ := HC.out k hlt
      have hcell : wr.cell? ⟨b, o + k, none⟩ = some (.float .f64 (xs k)) := (HB.out.cell (p := ⟨b, o + k, none⟩) hbw).trans hcell0
      have HXK := Lib.hid hcell
      clear hcell hcell0
      go_wp2_with fail
      obtain ⟨wo, rfl⟩ : ∃ wo : World, wo = wr := ⟨_, rfl⟩
      go_loopw [5] (fun a wi => ∃ m : Nat, m ≤ k ∧ a = .int .i64 m ∧ Lp.stop xs k (Lp.refL xs k) k = Lp.stop xs k (Lp.refL xs k) m ∧ ∃ q, wi = wo.drewN q) (fun a _ => (intOf a).toNat)
      case atStart => exact ⟨k, Nat.le_refl _, rfl, rfl, 0, rfl⟩
      case round =>
        obtain ⟨m, hm, rfl, hst, q, rfl⟩ := hrel
        have HS := Lib.hid hst; clear hst
        have cells : ∀ j, j < k → wo.cell? ⟨g, j, none⟩ = some (.int .i64 (((Lp.refL xs k)[j]?.getD 0 : Nat))) ∧ wo.cell? ⟨b, o + (Lp.refL xs k)[j]?.getD 0, none⟩ = some (.float .f64 (xs ((Lp.refL xs k)[j]?.getD 0))) ∧ (Lp.refL xs k)[j]?.getD 0 < n := by
          intro j hj
          have hx := Lp.refL_at_lt (xs := xs) hj
          refine ⟨getD_tmp _ j (by rw [HL.out]; exact hj) rfl HO.out, ?_, by omega⟩
          obtain ⟨b', o', e, _, hc'⟩ := HC.out ((Lp.refL xs k)[j]?.getD 0) (by omega)
          injection e with e; injection e with e1 e2
          subst e1; subst e2
          exact (HB.out.cell (p := ⟨b, o + _, none⟩) hbw).trans hc'
        have CE := Lib.hid cells; clear cells
        have hxk : wo.cell? ⟨b, o + k, none⟩ = some (.float .f64 (xs k)) := HXK.out
        obtain ⟨x, hx⟩ : ∃ x, x = (Lp.refL xs k)[m - 1]?.getD 0 := ⟨_, rfl⟩
        by_cases hgo : m ≠ 0 ∧ Fl.lessF (xs k) (xs x) = true
        · obtain ⟨hm0, hl⟩ := hgo
          obtain ⟨m', rfl⟩ : ∃ m', m = m' + 1 := ⟨m - 1, by omega⟩
          obtain ⟨c1, c2, c3⟩ := CE.out m' (by omega)
          rw [Nat.add_sub_cancel] at hx
          have hrec : Lp.stop xs k (Lp.refL xs k) (m' + 1) = Lp.stop xs k (Lp.refL xs k) m' := by rw [Lp.stop, ← hx, hl]; rfl
          have HR := Lib.hid hrec; clear hrec
          rw [← hx] at c1 c2 c3
          clear hx
          have d0 : decide ((0 : Int) < ((m' + 1 : Nat) : Int)) = true := by simp
          have x1 : (x : Int) < (n : Int) := by omega
          have m1 : (m' : Int) < (k : Int) := by omega
          have w1 : IntKind.i64.wrap ((m' : Int) + 1 - 1) = (m' : Int) := by rw [show (m' : Int) + 1 - 1 = m' from by omega]; exact IntWalk.i64_in _ (by omega)
          have w2 : IntKind.i64.wrap (((m' + 1 : Nat) : Int) - 1) = (m' : Int) := by rw [show ((m' + 1 : Nat) : Int) - 1 = m' from by omega]; exact IntWalk.i64_in _ (by omega)
          have hcall : ∀ w, Calls Tryd.prog 17 #[.float .f64 (xs k), .float .f64 (xs x)] w fun e w' => e = .returned (.bool true) ∧ w = w' := by
            intro w; have h := rless_any (xs k) (xs x) w; rw [hl] at h; exact h
          have HCALL := Lib.hid hcall; clear hl hcall
          go_wp2_with fail
          go_quiet ((go_at_call 17; exact quiet_add_left (HCALL.out _)))
          go_wp2_with fail
          refine ⟨⟨m', by omega, rfl, HS.out.trans HR.out, ?_⟩, by simp [intOf]⟩
          first | exact ⟨_, rfl⟩ | exact ⟨_, World.drewN_drewN _ _ _⟩
        · have hstop : Lp.stop xs k (Lp.refL xs k) k = m := by
            rw [HS.out]
            rcases Nat.eq_zero_or_pos m with h | h
            · rw [h]; rfl
            · obtain ⟨m', rfl⟩ : ∃ m', m = m' + 1 := ⟨m - 1, by omega⟩
              rw [Nat.add_sub_cancel] at hx
              have : Fl.lessF (xs k) (xs x) = false := by
                cases e : Fl.lessF (xs k) (xs x)
                · rfl
                · exact absurd ⟨by omega, e⟩ hgo
              rw [Lp.stop, ← hx, this]; rfl
          have HST := Lib.hid hstop; clear hstop
          by_cases hm0 : m = 0
          · have d0 : decide ((0 : Int) < (m : Int)) = false := by simp [hm0]
            have d0' : decide (0 < m) = false := by simp [hm0]
            clear hm0 hx hgo
            go_wp2_with fail
            go_quiet (fail)
            go_upto_region 8 with (fail)
            obtain ⟨W, hW⟩ : ∃ W, W = (wo.drewN q).drewN nq := ⟨_, rfl⟩
            rw [← hW]
            have hoW : W.ownsRow w.heap.size 3 1 (.slice (some ⟨g, 0, none⟩) k cp) k (nats (Lp.refL xs k)) := by rw [hW]; exact HO.out
            have hbW : Below w.heap.size w W := by rw [hW]; exact below_drewN' (below_drewN' HB.out q) nq
            clear hW HXK hxk CE d0 d0'
            obtain ⟨AD, hAD, hADn⟩ : ∃ AD, (if cp = m then some (⟨g, 0, none⟩ : Addr) else some ⟨g, m, none⟩) = some AD ∧ (m < k → AD = ⟨g, m, none⟩) := by
              by_cases e : cp = m
              · exact ⟨⟨g, 0, none⟩, by rw [if_pos e], fun h => by omega⟩
              · exact ⟨⟨g, m, none⟩, by rw [if_neg e], fun _ => rfl⟩
            have P := put_world hoW hbW hm hn hlt HL.out HST.out hADn
            clear hoW hbW hADn
            go_wp2_with (first | (at_builtin; refine wpList_append_own _ rfl (.tmp 35) (.tmp 38) 37 rfl W.heap.size 3 i0 (.int .i64 0) 1 8 Tryd.underlying37 hi hz0 hz1 hz2 rfl (by decide) _ _ _ rfl P.own1 ⟨g, 0, none⟩ m cp (nats ((Lp.refL xs k).take m)) rfl P.len1 P.news1 (nats_one _) P.max1 P.byt1 P.base1 ?_; intro v1 w1 hown1 hgrow1 _; have P2 := P.step1 v1 w1 hown1 hgrow1; clear hown1 hgrow1) | (at_builtin; refine wpList_append_own _ rfl (.tmp 40) (.tmp 42) 37 rfl W.heap.size 3 i0 (.int .i64 0) 1 8 Tryd.underlying37 hi hz0 hz1 hz2 rfl (by decide) _ _ _ rfl P2.own2 ⟨w1.heap.size, 0, none⟩ 1 1 [.int .i64 k] rfl rfl P2.news2 P2.one2 P2.max2 P2.byt2 P2.base2 ?_; intro v2 w2 hown2 hgrow2 _; have P3 := P2.step2 v2 w2 hown2 hgrow2; clear hown2 hgrow2) | (at_builtin; go_loud (refine wpList_append_own _ rfl (.tmp 44) (.tmp 47) 37 rfl W.heap.size 3 i0 (.int .i64 0) 1 8 Tryd.underlying37 hi hz0 hz1 hz2 rfl (by decide) _ _ _ rfl P3.own3 AD (k - m) (cp - m) (nats ((Lp.refL xs k).drop m)) rfl P3.len3 P3.news3 (nats_one _) P3.max3 P3.byt3 P3.base3 ?_); intro v3 w3 hown3 hgrow3 _; have P4 := P3.step3 v3 w3 hown3 hgrow3; clear hown3 hgrow3))
            exact ⟨⟨k + 1, by omega, by go_num, P4.fin⟩, by simp [intOf]; omega⟩
          · obtain ⟨m', hm'⟩ : ∃ m', m = m' + 1 := ⟨m - 1, by omega⟩
            have hl : Fl.lessF (xs k) (xs x) = false := by
              cases e : Fl.lessF (xs k) (xs x)
              · rfl
              · exact absurd ⟨by omega, e⟩ hgo
            obtain ⟨c1, c2, c3⟩ := CE.out m' (by omega)
            rw [hm', Nat.add_sub_cancel] at hx
            rw [← hx] at c1 c2 c3
            clear hx hgo
            have d0 : decide ((0 : Int) < (m : Int)) = true := by simp; omega
            have d0' : 0 < m := by omega
            have x1 : (x : Int) < (n : Int) := by omega
            have m1 : (m' : Int) < (k : Int) := by omega
            have w1 : IntKind.i64.wrap ((m : Int) - 1) = (m' : Int) := by rw [show (m : Int) - 1 = m' from by omega]; exact IntWalk.i64_in _ (by omega)
            have hcall : ∀ w, Calls Tryd.prog 17 #[.float .f64 (xs k), .float .f64 (xs x)] w fun e w' => e = .returned (.bool false) ∧ w = w' := by
              intro w; have h := rless_any (xs k) (xs x) w; rw [hl] at h; exact h
            have HCALL := Lib.hid hcall; clear hl hcall hm' hm0
            go_wp2_with fail
            go_quiet ((go_at_call 17; exact quiet_add_left (HCALL.out _)))
            go_upto_region 8 with (fail)
            clear c1 c2 c3 x1 m1 w1
            obtain ⟨W, hW⟩ : ∃ W, W = (wo.drewN q).drewN nq := ⟨_, rfl⟩
            rw [← hW]
            have hoW : W.ownsRow w.heap.size 3 1 (.slice (some ⟨g, 0, none⟩) k cp) k (nats (Lp.refL xs k)) := by rw [hW]; exact HO.out
            have hbW : Below w.heap.size w W := by rw [hW]; exact below_drewN' (below_drewN' HB.out q) nq
            clear hW HXK hxk CE d0 d0'
            obtain ⟨AD, hAD, hADn⟩ : ∃ AD, (if cp = m then some (⟨g, 0, none⟩ : Addr) else some ⟨g, m, none⟩) = some AD ∧ (m < k → AD = ⟨g, m, none⟩) := by
              by_cases e : cp = m
              · exact ⟨⟨g, 0, none⟩, by rw [if_pos e], fun h => by omega⟩
              · exact ⟨⟨g, m, none⟩, by rw [if_neg e], fun _ => rfl⟩
            have P := put_world hoW hbW hm hn hlt HL.out HST.out hADn
            clear hoW hbW hADn
            go_wp2_with (first | (at_builtin; refine wpList_append_own _ rfl (.tmp 35) (.tmp 38) 37 rfl W.heap.size 3 i0 (.int .i64 0) 1 8 Tryd.underlying37 hi hz0 hz1 hz2 rfl (by decide) _ _ _ rfl P.own1 ⟨g, 0, none⟩ m cp (nats ((Lp.refL xs k).take m)) rfl P.len1 P.news1 (nats_one _) P.max1 P.byt1 P.base1 ?_; intro v1 w1 hown1 hgrow1 _; have P2 := P.step1 v1 w1 hown1 hgrow1; clear hown1 hgrow1) | (at_builtin; refine wpList_append_own _ rfl (.tmp 40) (.tmp 42) 37 rfl W.heap.size 3 i0 (.int .i64 0) 1 8 Tryd.underlying37 hi hz0 hz1 hz2 rfl (by decide) _ _ _ rfl P2.own2 ⟨w1.heap.size, 0, none⟩ 1 1 [.int .i64 k] rfl rfl P2.news2 P2.one2 P2.max2 P2.byt2 P2.base2 ?_; intro v2 w2 hown2 hgrow2 _; have P3 := P2.step2 v2 w2 hown2 hgrow2; clear hown2 hgrow2) | (at_builtin; go_loud (refine wpList_append_own _ rfl (.tmp 44) (.tmp 47) 37 rfl W.heap.size 3 i0 (.int .i64 0) 1 8 Tryd.underlying37 hi hz0 hz1 hz2 rfl (by decide) _ _ _ rfl P3.own3 AD (k - m) (cp - m) (nats ((Lp.refL xs k).drop m)) rfl P3.len3 P3.news3 (nats_one _) P3.max3 P3.byt3 P3.base3 ?_); intro v3 w3 hown3 hgrow3 _; have P4 := P3.step3 v3 w3 hown3 hgrow3; clear hown3 hgrow3))
            exact ⟨⟨k + 1, by omega, by go_num, P4.fin⟩, by simp [intOf]; omega⟩
    · obtain rfl : k = n := by omega
      have d1 : decide ((k : Int) < (k : Int)) = false := by simp
      go_wp2_with fail
      go_ret
      exact ⟨_, ⟨.int .i64 k, Nat.le_refl _, rfl, g, cp, rfl, HO.out, HB.out⟩, rfl⟩
end Go.Proofs.YtbjjanmafejlnaaDoor
