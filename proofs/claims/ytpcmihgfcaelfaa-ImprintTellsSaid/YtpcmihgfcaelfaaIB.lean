/- The walk of the reference's Pairs (layer 16). · Which trees are sized, as plain data. No program in sight. · The program's check of a tree, as plain data, and that it answers as the reference's. No program in sight. · A region that draws its order, taken operation by operation by hand: the operation's slot is named. No program in sight. · The walk of the reference's Sized (layer 16). · Rows of pairs and of ints: how they lie in memory, and one more behind them. -/
import Derived.Test.YtpcmihgfcaelfaaIA
import Derived.Deep.RegionHeld3
import Derived.Deep.AppendLies
namespace Go.Proofs.Ytpcmihgfcaelfaa
open Go.RowKit

theorem infoP : (Try.prog.info? 66).map (fun i => (i.zero, i.size, i.bytes)) = some (some (.agg #[.int .i64 0, .int .i64 0]), 2, 16) := by kernel_rfl
theorem own_belowP {W W' : World} {B : Nat} {e : TypeId} {size n : Nat} {v : Value} {xs : List Value} (h : W.ownsRow B e size v n xs) (hb : Below W.heap.size W W') : W'.ownsRow B e size v n xs :=
  h.kept (row := none) ⟨hb.os, hb.tape, hb.output, hb.size, fun k hk _ => hb.block k hk⟩ (Classical.or_iff_not_imp_left.2 fun h => h)
theorem src_pair {B n : Nat} {v : Value} {l : List PairD} {w : World} (h : w.ownsRow B 66 2 v n (pairRows l).flatten) : ∃ p c, v = .slice p n c ∧ (p = none → c = 0) ∧ SrcAt w p n 2 (pairRows l).flatten := by
  obtain ⟨p, c, hv, _, _, hs⟩ := ow_src h (pairRows_one l)
  refine ⟨p, c, hv, fun hp => ?_, hs⟩
  subst hp
  rcases ow_slice h with ⟨h1, _, _⟩ | ⟨g, cap, h1⟩
  · rw [hv] at h1; injection h1 with _ _ h3
  · rw [hv] at h1; injection h1 with h2; cases h2
theorem NBox.grown {b : Nat} {x y z : Value} {W W' : World} {row : Option Nat} (h : NBox b x y z W) (hg : W.grownBy W' row) (hne : some b ≠ row) : NBox b x y z W' := ⟨hg.cell h.1 hne, hg.cell h.2.1 hne, hg.cell h.2.2 hne⟩
/-- what Pairs holds of the world in its second loop -/
def PRel (w : World) (bx : Value × Value × Value) (kids : List NodeD) (v i : Value) (wr : World) : Prop :=
  ∃ (k : Nat) (vv : Value), vv = v ∧ k ≤ kids.length ∧ i = .int .i64 k ∧ wr.ownsRow (w.heap.size + 1) 66 2 v (pairsL (kids.take k)).length (pairRows (pairsL (kids.take k))).flatten ∧ NBox w.heap.size bx.1 bx.2.1 bx.2.2 wr ∧ Below w.heap.size w wr

theorem pairsL_mono (l : List NodeD) (k : Nat) : (pairsL (l.take k)).length ≤ (pairsL l).length := by
  have : pairsL l = pairsL (l.take k) ++ pairsL (l.drop k) := by
    rw [pairsL_flat, pairsL_flat, pairsL_flat, ← List.flatten_append, ← List.map_append, List.take_append_drop]
  rw [this, List.length_append]; omega

theorem new_pair {W : World} {x y : Value} : ∀ j u, [x, y][j]? = some u → (W.alloc (.cells #[x, y] 66)).cell? ((⟨W.heap.size, 0, none⟩ : Addr).add j) = some u := by
  intro j u hu
  rw [ow_at, World.cell?_alloc_at _ _ _ _ rfl]
  rcases j with _ | _ | j
  · exact hu
  · exact hu
  · simp at hu
theorem step_pair {ops : Array Oper} {o : Oper} {a : Act} {K : Act → World → Prop} {Q : Exit → Act → World → Prop} {E : Prop} {v : Value} {k B s1 s2 : Nat} {xs : List Value} {x y : Int} {W : World}
    (hg : o.guard = none) (ho : o.op = .call { callee := .builtin .append, args := #[.tmp s1, .tmp s2], argTypes := #[38, 38] })
    (hs : a.eval (.tmp s1) = v) (hx : a.eval (.tmp s2) = .slice (some ⟨W.heap.size, 0, none⟩) 1 1) (hown : W.ownsRow B 66 2 v k xs) (hk : k ≤ 1000000) (hB : B ≤ W.heap.size)
    (h : ∀ g cap w', w'.ownsRow B 66 2 (.slice (some ⟨g, 0, none⟩) (k + 1) cap) (k + 1) (xs ++ [.int .i64 x, .int .i64 y]) → (W.alloc (.cells #[.int .i64 x, .int .i64 y] 66)).grownBy w' v.ownBlock → K (a.put o.dst (.slice (some ⟨g, 0, none⟩) (k + 1) cap)) w') :
    if Region.wanted o (yielded ops a.tmps) = true then Oper.wp Try.prog o a (W.alloc (.cells #[.int .i64 x, .int .i64 y] 66)) K Q else E := by
  obtain ⟨i0, hi0, hz0, hz1, hz2⟩ := info_parts infoP
  exact step_append_lies _ hg (.tmp s1) (.tmp s2) 38 ho B 66 i0 (.agg #[.int .i64 0, .int .i64 0]) 2 16 Try.underlying38 hi0 hz0 hz1 hz2 rfl (by decide) v k xs hs (World.ownsRow.alloc hown _) ⟨W.heap.size, 0, none⟩ 1 1 [.int .i64 x, .int .i64 y] hx rfl new_pair (by intro u hu; simp only [List.mem_cons, List.not_mem_nil, or_false] at hu; rcases hu with rfl | rfl <;> rfl) Nat.one_pos
    (by unfold maxLen; omega) (by omega) (by simp; omega) (W.heap.size + 1) (by simp) (fun g cap w' h1 h2 _ _ => h g cap w' h1 h2)

set_option maxRecDepth 100000 in
set_option maxHeartbeats 4000000 in
theorem rpairs_any (t : NodeD) : ∀ (a b c : Value) (w : World), NodeAt w t a b c → (pairsN t).length ≤ 1000000 → Calls Try.prog 19 #[.agg #[a, b, c]] w fun e w' => ∃ v', e = .returned v' ∧ w'.ownsRow w.heap.size 66 2 v' (pairsN t).length (pairRows (pairsN t)).flatten ∧ Below w.heap.size w w' := by
  induction t using NodeD.ind with
  | h ks vs kids ih =>
    intro a b c w hn hlen
    have HIH := Lib.hid ih; clear ih
    obtain ⟨⟨pa, ca, rfl, a1, a2, ha⟩, ⟨pb, cb, rfl, b1, b2, hbv⟩, ⟨pc, cc, rfl, c1, c2, hk⟩⟩ := nodeAt_iff.1 hn
    simp only [NodeD.keys, NodeD.vals, NodeD.kids] at a1 b1 c1 ha hbv hk ⊢
    have HK := Lib.hid hk; have HA := Lib.hid ha; have HV := Lib.hid hbv; clear hk hn ha hbv
    have hlc : (kids.length : Int) ≤ 9223372036854775807 := by unfold maxLen at c2; omega
    obtain ⟨i0, hi, hz0, hz1, hz2⟩ := info_parts infoP
    clear c1 c2
    have HLEN := Lib.hid hlen; clear hlen
    cases hkc : kids with
    | nil =>
      subst hkc
      have HPN := Lib.hid (show pairsN (.mk ks vs []) = ks.zip vs by simp only [pairsN, pairsL]; simp)
      have hzl : (ks.zip vs).length ≤ 1000000 := by rw [← HPN.out]; exact HLEN.out
      have hzm : (ks.zip vs).length ≤ ks.length ∧ (ks.zip vs).length ≤ vs.length ∧ (ks.length ≤ (ks.zip vs).length ∨ vs.length ≤ (ks.zip vs).length) := by rw [List.length_zip]; omega
      obtain ⟨Z, hZ⟩ : ∃ Z, (ks.zip vs).length = Z := ⟨_, rfl⟩
      rw [hZ] at hzl hzm
      have HZ := Lib.hid hZ; clear hZ
      have hla : (ks.length : Int) ≤ 9223372036854775807 := by unfold maxLen at a2; omega
      have hlb : (vs.length : Int) ≤ 9223372036854775807 := by unfold maxLen at b2; omega
      clear a1 b1 a2 b2 hlc
      go_enter Try.func19, Try.ntmps19
      go_wp2_with fail
      go_loopw [3, 4] (fun v i wr => ∃ (k : Nat) (vv : Value), vv = v ∧ k ≤ Z ∧ i = .int .i64 k ∧ wr.ownsRow (w.heap.size + 1) 66 2 v ((ks.zip vs).take k).length (pairRows ((ks.zip vs).take k)).flatten ∧ NBox w.heap.size (.slice pa ks.length ca) (.slice pb vs.length cb) (.slice pc 0 cc) wr ∧ Below w.heap.size w wr) (fun _ i _ => Z - (intOf i).toNat)
      case atStart =>
        refine ⟨0, _, rfl, Nat.zero_le _, rfl, ?_, ⟨by simp, by simp, by simp⟩, ((Below.refl _ _).alloc (Nat.le_refl _) _).alloc (by simp) _⟩
        have := World.ownsRow_made (w.alloc (.cells #[.slice pa ks.length ca, .slice pb vs.length cb, .slice pc 0 cc] 43)) #[] 0 (base := w.heap.size + 1) (e := 66) (size := 2) (by simp) (by unfold maxLen; omega) rfl
        simpa [pairRows] using this
      case round =>
        obtain ⟨k, vv, hvv, hk, rfl, hown, hbx, hb⟩ := hrel
        subst hvv
        have HO := Lib.hid hown; have HX := Lib.hid hbx; have HB := Lib.hid hb
        obtain ⟨q0, q1, q2⟩ := hbx
        have hlx := World.block_lt_of_cell? _ _ q0
        clear hown hb
        by_cases hlt : k < Z
        case neg =>
          obtain rfl : k = Z := by omega
          have HFIN := Lib.hid (show wr.ownsRow w.heap.size 66 2 vv (pairsN (.mk ks vs [])).length (pairRows (pairsN (.mk ks vs []))).flatten by
            have := HO.out
            rw [List.take_of_length_le (by rw [HZ.out]; exact Nat.le_refl _)] at this
            rw [HPN.out]; exact ow_mono (by omega) this)
          have hc : (¬ (k : Int) < (ks.length : Int)) ∨ ((k : Int) < (ks.length : Int) ∧ ¬ (k : Int) < (vs.length : Int)) := by omega
          rcases hc with h1 | ⟨h1, h2⟩
          all_goals
            go_wp2_with fail
            go_loopw [3, 5] (fun v i w' => vv = v ∧ i = .int .i64 0 ∧ wr = w') (fun _ _ _ => 0)
            case atStart => exact ⟨rfl, rfl, rfl⟩
            case round =>
              obtain ⟨rfl, rfl, rfl⟩ := hrel
              go_wp2_with fail
              go_ret
              exact ⟨_, rfl, HFIN.out, HB.out⟩
        have hka : (k : Int) < (ks.length : Int) := by omega
        have hkb : (k : Int) < (vs.length : Int) := by omega
        have hk00 : (0 : Int) ≤ (k : Int) := by omega
        obtain ⟨x, hx⟩ : ∃ x, ks[k]? = some x := ⟨_, List.getElem?_eq_getElem (by omega)⟩
        obtain ⟨y, hy⟩ : ∃ y, vs[k]? = some y := ⟨_, List.getElem?_eq_getElem (by omega)⟩
        obtain ⟨_, ga, oa, rfl, hxa⟩ := HA.out k x hx
        obtain ⟨_, gb, ob, rfl, hyb⟩ := HV.out k y hy
        have hga := World.block_lt_of_cell? _ _ hxa; have hgb := World.block_lt_of_cell? _ _ hyb
        have HNE := Lib.hid (show ∀ b, b < w.heap.size + 1 → some b ≠ vv.ownBlock from fun b hb e => by have := (HO.out.lt _ e.symm).1; omega)
        have rx := cell_stays HB.out hxa; have ry := cell_stays HB.out hyb
        have HSN := Lib.hid (zip_snoc hx hy)
        have hkl : ((ks.zip vs).take k).length ≤ 1000000 := by rw [List.length_take]; omega
        have HO0 := HO
        clear HO
        obtain ⟨L, hL⟩ : ∃ L, (ks.zip vs).take k = L := ⟨_, rfl⟩
        rw [hL] at hkl HSN HO0
        have HLQ := Lib.hid hL; clear hL
        have HO := HO0
        have HKL := Lib.hid hkl
        have HOD := Lib.hid (own_belowP HO.out (Below.refl _ _).drew)
        have HBD := Lib.hid (show w.heap.size + 1 ≤ wr.drew.heap.size from hlx)
        clear hx hy hxa hyb hkl
        go_wp2_with fail
        go_region_held3 (fun w' => w'.cell? ⟨w.heap.size, 0, none⟩ = some (.slice (some ⟨ga, oa, none⟩) ks.length ca) ∧ w'.cell? ⟨w.heap.size, 1, none⟩ = some (.slice (some ⟨gb, ob, none⟩) vs.length cb) ∧ w'.cell? ⟨ga, oa + k, none⟩ = some (.int .i64 x) ∧ w'.cell? ⟨gb, ob + k, none⟩ = some (.int .i64 y))
          (first | exact ⟨q0, q1, rx, ry⟩ | exact ⟨cell_stays ((Below.refl _ _).alloc (Nat.le_refl _) _) q0, cell_stays ((Below.refl _ _).alloc (Nat.le_refl _) _) q1, cell_stays ((Below.refl _ _).alloc (Nat.le_refl _) _) rx, cell_stays ((Below.refl _ _).alloc (Nat.le_refl _) _) ry⟩ | exact HS4.out)
          ((refine step_pair rfl rfl rfl rfl HOD.out HKL.out HBD.out ?_; intro gg cap w1 hown1 hgrow1; have HG := Lib.hid hgrow1; have HS4 := Lib.hid (And.intro (hgrow1.cell (cell_stays ((Below.refl _ _).alloc (Nat.le_refl _) _) (show wr.drew.cell? _ = _ from q0)) (HNE.out w.heap.size (by omega))) (And.intro (hgrow1.cell (cell_stays ((Below.refl _ _).alloc (Nat.le_refl _) _) (show wr.drew.cell? _ = _ from q1)) (HNE.out w.heap.size (by omega))) (And.intro (hgrow1.cell (cell_stays ((Below.refl _ _).alloc (Nat.le_refl _) _) (show wr.drew.cell? _ = _ from rx)) (HNE.out ga (by omega))) (hgrow1.cell (cell_stays ((Below.refl _ _).alloc (Nat.le_refl _) _) (show wr.drew.cell? _ = _ from ry)) (HNE.out gb (by omega))))))))
        have HX1 := Lib.hid ((NBox.below (show NBox w.heap.size (.slice (some ⟨ga, oa, none⟩) ks.length ca) (.slice (some ⟨gb, ob, none⟩) vs.length cb) (.slice pc 0 cc) wr.drew from HX.out) ((Below.refl _ _).alloc (Nat.le_refl _) _)).grown HG.out (HNE.out w.heap.size (by omega)))
        have HB1 := Lib.hid ((HB.out.drew.alloc (show w.heap.size ≤ wr.drew.heap.size from HB.out.size) _).grown HG.out (by simp; have := HB.out.size; omega) (fun q e => by have := (HO.out.lt q e).1; omega))
        have HO1 := Lib.hid hown1
        clear hown1 hgrow1
        go_wp2_with fail
        go_roundw
        case rel =>
          refine ⟨k + 1, _, rfl, by omega, by go_num, ?_, HX1.out, HB1.out⟩
          rw [HSN.out, pairRows_snoc, List.length_append]
          exact HO1.out
        case measure => simp [intOf]; omega
    | cons t0 ts =>
      have HKC := Lib.hid (show kids.length ≠ 0 by rw [hkc]; simp)
      rw [← hkc]
      clear hkc
      have HPN := Lib.hid (show pairsN (.mk ks vs kids) = pairsL kids by simp only [pairsN]; rw [if_neg HKC.out, List.nil_append])
      have hk0 : ((kids.length : Int) == 0) = false := by rw [beq_eq_false_iff_ne]; have := HKC.out; omega
      go_enter Try.func19, Try.ntmps19
      go_wp2_with fail
      go_loopw [3, 5] (fun v i wr => PRel w (.slice pa ks.length ca, .slice pb vs.length cb, .slice pc kids.length cc) kids v i wr) (fun _ i _ => kids.length - (intOf i).toNat)
      case atStart =>
        refine ⟨0, _, rfl, Nat.zero_le _, rfl, ?_, ⟨by simp, by simp, by simp⟩, ((Below.refl _ _).alloc (Nat.le_refl _) _).alloc (by simp) _⟩
        have := World.ownsRow_made (w.alloc (.cells #[.slice pa ks.length ca, .slice pb vs.length cb, .slice pc kids.length cc] 43)) #[] 0 (base := w.heap.size + 1) (e := 66) (size := 2) (by simp) (by unfold maxLen; omega) rfl
        simpa [pairsL, pairRows] using this
      case round =>
        obtain ⟨k, vv, hvv, hk, rfl, hown, hbx, hb⟩ := hrel
        subst hvv
        have HO := Lib.hid hown; have HX := Lib.hid hbx; have HB := Lib.hid hb
        obtain ⟨q0, q1, q2⟩ := hbx
        simp only at q0 q1 q2
        have hlx := World.block_lt_of_cell? _ _ q0
        clear hown hb
        by_cases hlt : k < kids.length
        case neg =>
          obtain rfl : k = kids.length := by omega
          go_wp2_with fail
          go_ret
          refine ⟨_, rfl, ?_, HB.out⟩
          have := HO.out
          rw [List.take_length] at this
          rw [HPN.out]
          exact ow_mono (by omega) this
        have hki : (k : Int) < (kids.length : Int) := by omega
        obtain ⟨s, hs⟩ : ∃ s, kids[k]? = some s := ⟨_, List.getElem?_eq_getElem hlt⟩
        obtain ⟨g, o, x, y, z, rfl, e1, e2, e3, e4⟩ := HK.out k s hs
        have r1 := cell_stays HB.out e1; have r2 := cell_stays HB.out e2; have r3 := cell_stays HB.out e3
        have HN := Lib.hid (e4.keep (keeps_below HB.out))
        have HM := Lib.hid (List.mem_of_getElem? hs)
        have hsn := pairsL_snoc hs
        have hmo := pairsL_mono kids (k + 1)
        have hpn := HLEN.out
        rw [HPN.out] at hpn
        rw [hsn, List.length_append] at hmo
        have hsl : (pairsN s).length ≤ 1000000 := by omega
        have hkl : (pairsL (kids.take k)).length + (pairsN s).length ≤ 1000000 := by omega
        have HSN := Lib.hid hsn; have HKL := Lib.hid hkl
        clear hs e1 e2 e3 e4 hsn hmo hpn hkl
        go_wp2_with fail
        refine (HIH.out s HM.out x y z _ HN.out hsl).mono ?_
        rintro e w1 ⟨v1, rfl, hrow, hb1⟩
        obtain ⟨p1, n1, hv1, hnn, hsrc⟩ := src_pair hrow
        subst hv1
        have HO1 := Lib.hid (own_belowP HO.out hb1); have HX1 := Lib.hid (HX.out.below hb1); have HB1 := Lib.hid (btrans HB.out hb1)
        obtain ⟨v2, w2, hrun, hown2, hg2⟩ := run_append_src (P := Try.prog) w1 (w.heap.size + 1) 38 38 66 i0 (.agg #[.int .i64 0, .int .i64 0]) 2 16 Try.underlying38 hi hz0 hz1 hz2 rfl (by decide) vv _ _ HO1.out p1 (pairsN s).length n1 _ hsrc hnn (by have := HKL.out; unfold maxLen; omega) (by have := HKL.out; omega) (by have := HB1.out.size; have := hb1.size; omega)
        have HR := Lib.hid hrun
        have HO2 := Lib.hid hown2
        have HX2 := Lib.hid (HX1.out.grown hg2 (fun e => by have := (HO1.out.lt _ e.symm).1; omega))
        have HB2 := Lib.hid (HB1.out.grown hg2 HB1.out.size (fun k e => by have := (HO1.out.lt k e).1; omega))
        clear hrow hb1 hsrc hnn hrun hown2 hg2
        go_wp2_with (at_builtin; refine Lib.wpList_append_run _ rfl _ _ _ _ rfl _ _ rfl rfl _ _ HR.out ?_)
        go_roundw
        case rel =>
          refine ⟨k + 1, _, rfl, by omega, by go_num, ?_, HX2.out, HB2.out⟩
          rw [HSN.out, List.length_append, pairRows_cat]
          exact HO2.out
        case measure => simp [intOf]; omega
end Go.Proofs.Ytpcmihgfcaelfaa
namespace Go.Proofs.Ytpcmihgfcaelfaa
open Go.RowKit

mutual
def sizedN : NodeD → Int → Bool
  | .mk ks vs kids, low => decide (low ≤ ks.length ∧ ks.length ≤ 4) && (if kids.length = 0 then decide (vs.length = ks.length) else decide (vs.length = 0 ∧ kids.length = ks.length ∧ 2 ≤ ks.length) && sizedL kids ks)
def sizedL : List NodeD → List Int → Bool
  | [], _ => true
  | t :: ts, ks => (sizedN t 2 && decide (t.keys.head? = ks.head?)) && sizedL ts ks.tail
end
theorem sizedL_iff : ∀ (l : List NodeD) (ks : List Int), sizedL l ks = true ↔ ∀ (j : Nat) (t : NodeD), l[j]? = some t → sizedN t 2 = true ∧ t.keys.head? = ks[j]?
  | [], ks => by simp [sizedL]
  | t :: ts, ks => by
    simp only [sizedL, Bool.and_eq_true, decide_eq_true_eq, sizedL_iff ts ks.tail]
    constructor
    · rintro ⟨⟨h1, h2⟩, h3⟩ j s hj
      cases j with
      | zero => simp only [List.getElem?_cons_zero, Option.some.injEq] at hj; subst hj; exact ⟨h1, by rw [h2]; cases ks <;> rfl⟩
      | succ j =>
        rw [List.getElem?_cons_succ] at hj
        have := h3 j s hj
        exact ⟨this.1, by rw [this.2]; cases ks <;> rfl⟩
    · intro h
      have h0 := h 0 t rfl
      refine ⟨⟨h0.1, by rw [h0.2]; cases ks <;> rfl⟩, fun j s hj => ?_⟩
      have := h (j + 1) s (by rw [List.getElem?_cons_succ]; exact hj)
      exact ⟨this.1, by rw [this.2]; cases ks <;> rfl⟩
end Go.Proofs.Ytpcmihgfcaelfaa
namespace Go.Proofs.Ytpcmihgfcaelfaa
open Go.RowKit

/-- the keys ahead: is there one, and which -/
abbrev KeyS := Bool × Int
def keysS : List Int → KeyS → Option KeyS
  | [], s => some s
  | k :: ks, s => if s.1 = true ∧ k ≤ s.2 then none else keysS ks (true, k)
theorem keysS_cat : ∀ (a b : List Int) (s : KeyS), keysS (a ++ b) s = (keysS a s).bind (keysS b)
  | [], b, s => by simp only [List.nil_append, keysS, Option.bind_some]
  | k :: a, b, s => by
    simp only [List.cons_append, keysS]
    split
    · rfl
    · exact keysS_cat a b _
/-- the state of the checker: how deep the first leaf lies, and the keys -/
abbrev CkS := Int × KeyS
def leafS (ks vs : List Int) (depth : Int) (s : CkS) : Option CkS :=
  if vs.length = ks.length ∧ (s.1 = 0 ∨ s.1 = depth) then (keysS ks s.2).map fun q => (depth, q) else none
mutual
def nodeS : NodeD → Int → CkS → Option CkS
  | .mk ks vs kids, depth, s =>
    if depth > 40 ∨ ks.length > 4 ∨ (depth > 1 ∧ ks.length < 2) then none
    else if kids.length = 0 then leafS ks vs depth s
    else if vs.length ≠ 0 ∨ kids.length ≠ ks.length ∨ kids.length < 2 then none
    else kidsS kids ks depth s
def kidsS : List NodeD → List Int → Int → CkS → Option CkS
  | [], _, _, s => some s
  | t :: ts, ks, depth, s => if t.keys.length = 0 ∨ t.keys.head? ≠ ks.head? then none else
    match nodeS t (depth + 1) s with
    | none => none
    | some s' => kidsS ts ks.tail depth s'
end
def keysOf (t : NodeD) : List Int := (pairsN t).map Prod.fst
def keysL (l : List NodeD) : List Int := (pairsL l).map Prod.fst
theorem keysL_cons (t : NodeD) (ts : List NodeD) : keysL (t :: ts) = keysOf t ++ keysL ts := by unfold keysL keysOf; simp only [pairsL, List.map_append]
def lowOf (depth : Int) : Int := if depth > 1 then 2 else 0
/-- what the checker finds of a node -/
def NodeOk (t : NodeD) (depth : Int) (s s' : CkS) : Prop :=
  deepN t (41 - depth) ≠ 0 ∧ sizedN t (lowOf depth) = true ∧ s'.1 = depth + deepN t (41 - depth) - 1 ∧ (s.1 = 0 ∨ s.1 = s'.1) ∧ keysS (keysOf t) s.2 = some s'.2
def KidsOk (ts : List NodeD) (ks : List Int) (depth : Int) (s s' : CkS) : Prop :=
  (∀ (j : Nat) (t : NodeD), ts[j]? = some t → deepN t (40 - depth) ≠ 0 ∧ sizedN t 2 = true ∧ t.keys.head? = ks[j]? ∧ s'.1 = depth + deepN t (40 - depth)) ∧ (s.1 = s'.1 ∨ (s.1 = 0 ∧ ts ≠ [])) ∧ keysS (keysL ts) s.2 = some s'.2
theorem sized_low {t : NodeD} (h : sizedN t 2 = true) : 2 ≤ t.keys.length := by
  cases t with
  | mk ks vs kids =>
    simp only [sizedN, Bool.and_eq_true, decide_eq_true_eq] at h
    simp only [NodeD.keys]; omega
theorem kidsS_iff (ts : List NodeD) (hts : ∀ t ∈ ts, ∀ depth, 1 ≤ depth → depth ≤ 41 → ∀ s s', nodeS t depth s = some s' ↔ NodeOk t depth s s') :
    ∀ (ks : List Int) (depth : Int) (s s' : CkS), 1 ≤ depth → depth ≤ 40 → (kidsS ts ks depth s = some s' ↔ KidsOk ts ks depth s s') := by
  induction ts with
  | nil =>
    intro ks depth s s' _ _
    simp only [kidsS, KidsOk, Option.some.injEq]
    constructor
    · rintro rfl; exact ⟨fun j t h => by simp at h, .inl rfl, rfl⟩
    · rintro ⟨_, h1, h2⟩
      rcases h1 with h1 | ⟨_, h1⟩
      · have h2' : s.2 = s'.2 := by simpa [keysL, pairsL, keysS] using h2
        exact Prod.ext h1 h2'
      · exact absurd rfl h1
  | cons t ts ih =>
    intro ks depth s s' h1 h2
    have iht := hts t (by simp) (depth + 1) (by omega) (by omega)
    have ihs := ih (fun u hu => hts u (by simp [hu]))
    have e41 : 41 - (depth + 1) = 40 - depth := by omega
    have elow : lowOf (depth + 1) = 2 := by unfold lowOf; rw [if_pos (by omega)]
    simp only [kidsS]
    constructor
    · intro h
      split at h
      · exact absurd h (by simp)
      rename_i hk
      have hk2 : t.keys.head? = ks.head? := by
        by_cases e : t.keys.head? = ks.head?
        · exact e
        · exact absurd (Or.inr e) hk
      cases hn : nodeS t (depth + 1) s with
      | none => rw [hn] at h; exact absurd h (by simp)
      | some m =>
        rw [hn] at h
        simp only at h
        obtain ⟨a1, a2, a3, a4, a5⟩ := (iht s m).1 hn
        obtain ⟨b1, b2, b3⟩ := (ihs ks.tail depth m s' h1 h2).1 h
        rw [e41] at a1 a3; rw [elow] at a2
        have em : m.1 = s'.1 := by
          rcases b2 with b2 | ⟨b2, _⟩
          · exact b2
          · have := deepN_bd t (40 - depth) (by omega); omega
        refine ⟨fun j u hj => ?_, ?_, ?_⟩
        · cases j with
          | zero => simp only [List.getElem?_cons_zero, Option.some.injEq] at hj; subst hj; exact ⟨a1, a2, by rw [hk2]; cases ks <;> rfl, by omega⟩
          | succ j =>
            rw [List.getElem?_cons_succ] at hj
            have := b1 j u hj
            exact ⟨this.1, this.2.1, by rw [this.2.2.1]; cases ks <;> rfl, this.2.2.2⟩
        · rcases a4 with a4 | a4
          · exact .inr ⟨a4, by simp⟩
          · exact .inl (by omega)
        · rw [keysL_cons, keysS_cat, a5]; exact b3
    · rintro ⟨g1, g2, g3⟩
      have g0 := g1 0 t rfl
      rw [if_neg (by
        rintro (e | e)
        · have := sized_low g0.2.1; omega
        · exact e (by rw [g0.2.2.1]; cases ks <;> rfl))]
      rw [keysL_cons, keysS_cat] at g3
      cases hq : keysS (keysOf t) s.2 with
      | none => rw [hq] at g3; exact absurd g3 (by simp)
      | some q =>
        rw [hq] at g3
        have hn : nodeS t (depth + 1) s = some (s'.1, q) := (iht s (s'.1, q)).2 ⟨by rw [e41]; exact g0.1, by rw [elow]; exact g0.2.1, by rw [e41]; have := g0.2.2.2; simp only; omega, by
          rcases g2 with g2 | ⟨g2, _⟩
          · exact .inr g2
          · exact .inl g2, hq⟩
        rw [hn]
        simp only
        refine (ihs ks.tail depth _ s' h1 h2).2 ⟨fun j u hj => ?_, .inl rfl, g3⟩
        have := g1 (j + 1) u (by rw [List.getElem?_cons_succ]; exact hj)
        exact ⟨this.1, this.2.1, by rw [this.2.2.1]; cases ks <;> rfl, this.2.2.2⟩
theorem nodeS_iff (t : NodeD) : ∀ depth, 1 ≤ depth → depth ≤ 41 → ∀ s s', nodeS t depth s = some s' ↔ NodeOk t depth s s' := by
  induction t using NodeD.ind with
  | h ks vs kids ih =>
    intro depth h1 h2 s s'
    have hkids := kidsS_iff kids ih
    simp only [nodeS, NodeOk, sizedN, deepN]
    by_cases h41 : depth = 41
    · subst h41
      rw [if_pos (by omega), if_pos (by omega)]; simp
    rw [if_neg (show ¬ (41 - depth = 0) by omega)]
    have elow : (depth > 1 ∧ ks.length < 2) ↔ ¬ lowOf depth ≤ (ks.length : Int) := by unfold lowOf; split <;> omega
    by_cases hb : depth > 40 ∨ ks.length > 4 ∨ (depth > 1 ∧ ks.length < 2)
    · rw [if_pos hb]
      have : decide (lowOf depth ≤ (ks.length : Int) ∧ ks.length ≤ 4) = false := by
        rw [decide_eq_false_iff_not]; rintro ⟨c1, c2⟩; rcases hb with hb | hb | hb
        · omega
        · omega
        · exact elow.1 hb c1
      simp [this]
    rw [if_neg hb]
    have hT : decide (lowOf depth ≤ (ks.length : Int) ∧ ks.length ≤ 4) = true := by
      rw [decide_eq_true_eq]
      refine ⟨?_, by omega⟩
      by_cases hl : lowOf depth ≤ (ks.length : Int)
      · exact hl
      · exact absurd (.inr (.inr (elow.2 hl))) hb
    rw [hT, Bool.true_and]
    cases kids with
    | nil =>
      simp only [List.length_nil, if_true, deepK, leafS]
      have hz : vs.length = ks.length → keysOf (.mk ks vs []) = ks := by
        intro h; unfold keysOf; simp only [pairsN, pairsL, List.length_nil, if_true, List.append_nil]
        exact List.map_fst_zip (by omega)
      by_cases hv : vs.length = ks.length
      · rw [hz hv, decide_eq_true hv]
        by_cases hs : s.1 = 0 ∨ s.1 = depth
        · rw [if_pos ⟨hv, hs⟩]
          cases hq : keysS ks s.2 with
          | none => simp
          | some q =>
            simp only [Option.map_some, Option.some.injEq, ne_eq, true_and]
            constructor
            · rintro rfl; exact ⟨by omega, by omega, by rcases hs with hs | hs <;> simp [hs], rfl⟩
            · rintro ⟨_, c1, c2, c3⟩; exact Prod.ext (by simp only; omega) c3
        · rw [if_neg (fun c => hs c.2)]
          constructor
          · intro h; exact absurd h (by simp)
          · rintro ⟨_, _, c1, c2, c3⟩; exact absurd (show s.1 = 0 ∨ s.1 = depth by omega) hs
      · rw [if_neg (fun c => hv c.1), decide_eq_false hv]; simp
    | cons t ts =>
      rw [if_neg (by simp), if_neg (show ¬ (t :: ts).length = 0 by simp)]
      by_cases hc : vs.length ≠ 0 ∨ (t :: ts).length ≠ ks.length ∨ (t :: ts).length < 2
      · rw [if_pos hc, decide_eq_false (by omega)]; simp
      rw [if_neg hc, decide_eq_true (by omega), Bool.true_and, hkids ks depth s s' h1 (by omega)]
      have e40 : 41 - depth - 1 = 40 - depth := by omega
      have hko : keysOf (.mk ks vs (t :: ts)) = keysL (t :: ts) := by
        unfold keysOf keysL; simp only [pairsN]; rw [if_neg (by simp), List.nil_append]
      rw [hko, e40, sizedL_iff]
      simp only [deepK, deepL_all, KidsOk]
      have hd0 := deepN_bd t (40 - depth) (by omega)
      constructor
      · rintro ⟨c1, c2, c3⟩
        have c0 := c1 0 t rfl
        have hall : (ts.all fun u => decide (deepN u (40 - depth) = deepN t (40 - depth))) = true := List.all_eq_true.2 fun u hu => by
          obtain ⟨j, hj⟩ := List.mem_iff_getElem?.1 hu
          have := c1 (j + 1) u (by rw [List.getElem?_cons_succ]; exact hj)
          exact decide_eq_true (by omega)
        rw [if_pos hall, if_neg c0.1]
        exact ⟨by omega, fun j u hj => ⟨(c1 j u hj).2.1, (c1 j u hj).2.2.1⟩, by omega, by rcases c2 with c2 | ⟨c2, _⟩ <;> simp [c2], c3⟩
      · rintro ⟨c1, c2, c3, c4, c5⟩
        split at c1
        · rename_i hall
          rw [if_pos hall] at c3
          split at c1
          · exact absurd rfl c1
          · rename_i hne
            rw [if_neg hne] at c3
            refine ⟨fun j u hj => ?_, by rcases c4 with c4 | c4 <;> simp [c4], c5⟩
            have hu : deepN u (40 - depth) = deepN t (40 - depth) := by
              cases j with
              | zero => simp only [List.getElem?_cons_zero, Option.some.injEq] at hj; rw [hj]
              | succ j =>
                rw [List.getElem?_cons_succ] at hj
                exact of_decide_eq_true (List.all_eq_true.1 hall u (List.mem_of_getElem? hj))
            exact ⟨by rw [hu]; exact hne, (c2 j u hj).1, (c2 j u hj).2, by omega⟩
        · exact absurd rfl c1
/-- a list's keys rise -/
def riseB (l : List PairD) : Bool := (keysS (l.map Prod.fst) (false, 0)).isSome
def mayN (t : NodeD) : Bool := decide (deepN t 40 ≠ 0) && sizedN t 0 && riseB (pairsN t)
theorem nodeS_may (t : NodeD) : (nodeS t 1 (0, (false, 0))).isSome = mayN t := by
  have h := nodeS_iff t 1 (by omega) (by omega) (0, (false, 0))
  unfold NodeOk at h
  simp only [show (41 : Int) - 1 = 40 from rfl, show lowOf 1 = 0 from rfl] at h
  rw [Bool.eq_iff_iff, Option.isSome_iff_exists]
  unfold mayN riseB
  simp only [Bool.and_eq_true, decide_eq_true_eq, Option.isSome_iff_exists]
  constructor
  · rintro ⟨s', hs⟩
    have := (h s').1 hs
    exact ⟨⟨this.1, this.2.1⟩, s'.2, this.2.2.2.2⟩
  · rintro ⟨⟨h1, h2⟩, q, h3⟩
    exact ⟨(1 + deepN t 40 - 1, q), (h (1 + deepN t 40 - 1, q)).2 ⟨h1, h2, by simp only, by simp, h3⟩⟩
theorem keysS_iff : ∀ (l : List Int) (s : KeyS), (keysS l s).isSome = true ↔ (∀ i x y, l[i]? = some x → l[i + 1]? = some y → x < y) ∧ (s.1 = true → ∀ x, l[0]? = some x → s.2 < x)
  | [], s => by simp [keysS]
  | k :: ks, s => by
    simp only [keysS]
    split
    · rename_i h
      constructor
      · intro h2; exact absurd h2 (by simp)
      · rintro ⟨_, h2⟩; have := h2 h.1 k rfl; omega
    · rename_i h
      rw [keysS_iff ks]
      constructor
      · rintro ⟨h1, h2⟩
        refine ⟨fun i x y hx hy => ?_, fun hs x hx => ?_⟩
        · cases i with
          | zero =>
            simp only [List.getElem?_cons_zero, Option.some.injEq] at hx; subst hx
            exact h2 rfl y (by simpa using hy)
          | succ i => rw [List.getElem?_cons_succ] at hx hy; exact h1 i x y hx hy
        · simp only [List.getElem?_cons_zero, Option.some.injEq] at hx; subst hx
          by_cases hle : k ≤ s.2
          · exact absurd ⟨hs, hle⟩ h
          · omega
      · rintro ⟨h1, _⟩
        exact ⟨fun i x y hx hy => h1 (i + 1) x y (by rw [List.getElem?_cons_succ]; exact hx) (by rw [List.getElem?_cons_succ]; exact hy), fun _ x hx => h1 0 k x rfl (by rw [List.getElem?_cons_succ]; exact hx)⟩
theorem riseB_iff (l : List PairD) : riseB l = true ↔ ∀ i x y, l[i]? = some x → l[i + 1]? = some y → x.1 < y.1 := by
  unfold riseB
  rw [keysS_iff]
  constructor
  · rintro ⟨h, _⟩ i x y hx hy
    exact h i x.1 y.1 (by rw [List.getElem?_map, hx]; rfl) (by rw [List.getElem?_map, hy]; rfl)
  · intro h
    refine ⟨fun i x y hx hy => ?_, fun e => absurd e (by simp)⟩
    rw [List.getElem?_map] at hx hy
    cases hx' : l[i]? with
    | none => rw [hx'] at hx; exact absurd hx (by simp)
    | some p =>
      cases hy' : l[i + 1]? with
      | none => rw [hy'] at hy; exact absurd hy (by simp)
      | some q =>
        rw [hx'] at hx; rw [hy'] at hy
        simp only [Option.map_some, Option.some.injEq] at hx hy
        subst hx hy; exact h i p q hx' hy'
/-- the tree's node is told by its fields -/
theorem intsIn_inj {w : World} {p : Option Addr} {a b : List Int} (ha : IntsIn w p a) (hb : IntsIn w p b) (hl : a.length = b.length) : a = b := by
  apply List.ext_getElem? ; intro i
  by_cases hi : i < a.length
  · obtain ⟨_, g, o, e, hx⟩ := ha i a[i] (List.getElem?_eq_getElem hi)
    obtain ⟨_, g', o', e', hy⟩ := hb i (b[i]'(by omega)) (List.getElem?_eq_getElem (by omega))
    rw [e] at e'
    cases e'
    rw [hx] at hy
    rw [List.getElem?_eq_getElem hi, List.getElem?_eq_getElem (by omega)]
    injection hy with hy; injection hy with _ hy; rw [hy]
  · rw [List.getElem?_eq_none (by omega), List.getElem?_eq_none (by omega)]
theorem intsAt_inj {w : World} {v : Value} {a b : List Int} (ha : IntsAt w v a) (hb : IntsAt w v b) : a = b := by
  obtain ⟨p, c, rfl, _, _, h⟩ := ha
  obtain ⟨p', c', e, _, _, h'⟩ := hb
  injection e with e1 e2 e3
  subst e1
  exact intsIn_inj h h' e2
theorem nodeAt_inj {w : World} (t : NodeD) : ∀ {s : NodeD} {a b c : Value}, NodeAt w t a b c → NodeAt w s a b c → t = s := by
  induction t using NodeD.ind with
  | h ks vs kids ih =>
    intro s a b c ht hs
    rw [nodeAt_iff] at ht hs
    obtain ⟨h1, h2, p, cap, rfl, _, _, h3⟩ := ht
    obtain ⟨g1, g2, p', cap', e, _, _, g3⟩ := hs
    injection e with e1 e2 e3
    subst e1
    cases s with
    | mk ks' vs' kids' =>
      simp only [NodeD.keys, NodeD.vals, NodeD.kids] at *
      rw [intsAt_inj h1 g1, intsAt_inj h2 g2]
      congr 1
      apply List.ext_getElem?; intro i
      by_cases hi : i < kids.length
      · have hi' : i < kids'.length := by omega
        obtain ⟨g, o, x, y, z, q0, q1, q2, q3, q4⟩ := h3 i kids[i] (List.getElem?_eq_getElem hi)
        obtain ⟨g', o', x', y', z', r0, r1, r2, r3, r4⟩ := g3 i kids'[i] (List.getElem?_eq_getElem hi')
        rw [q0] at r0; cases r0
        rw [q1] at r1; rw [q2] at r2; rw [q3] at r3
        cases r1; cases r2; cases r3
        rw [List.getElem?_eq_getElem hi, List.getElem?_eq_getElem hi', ih kids[i] (List.getElem_mem hi) q4 r4]
      · rw [List.getElem?_eq_none (by omega), List.getElem?_eq_none (by omega)]
end Go.Proofs.Ytpcmihgfcaelfaa
namespace Go.Proofs.Ytpcmihgfcaelfaa
open Go.RowKit

theorem take_at {P : Program} {ops : Array Oper} {Q : Exit → Act → World → Prop} {md : Region.Mode} {S : World → Prop} {i : Nat} {d : Option Tmp} {v : Value} {oi : Oper} {fuel : Nat} {listed : Array Bool} {a : Act} {w : World}
    (hi : ops[i]? = some oi) (hd : oi.dst = d) (hs : Region.noSelect ops = true) (hf : Region.free md ops listed i = true) (hr : (Region.ready md ops listed).contains i = true)
    (hQ : ∀ c a w, Q (.panic c) (a.put d v) w → Q (.panic c) a w) (hS : S w) (hw : Region.wanted oi (yielded ops a.tmps) = true) (hy : ∀ w, S w → (execOp a.eval oi).run P w = .ok (.value v) w)
    (h : wpAnyH P md ops Q S fuel (listed.setIfInBounds i true) (a.put d v) w) : wpAnyH P md ops Q S (fuel + 1) listed a w := by
  subst hd
  exact wpAnyH_take hi hs hf hr hQ (Or.inl ⟨hw, hy⟩) hS h
theorem skip_at {P : Program} {ops : Array Oper} {Q : Exit → Act → World → Prop} {md : Region.Mode} {S : World → Prop} {i : Nat} {d : Option Tmp} {oi : Oper} {fuel : Nat} {listed : Array Bool} {a : Act} {w : World}
    (hi : ops[i]? = some oi) (hd : oi.dst = d) (hs : Region.noSelect ops = true) (hf : Region.free md ops listed i = true) (hr : (Region.ready md ops listed).contains i = true)
    (hQ : ∀ c a w, Q (.panic c) (a.put d undef) w → Q (.panic c) a w) (hS : S w) (hw : Region.wanted oi (yielded ops a.tmps) = false)
    (h : wpAnyH P md ops Q S fuel (listed.setIfInBounds i true) (a.put d undef) w) : wpAnyH P md ops Q S (fuel + 1) listed a w := by
  subst hd
  exact wpAnyH_take hi hs hf hr hQ (Or.inr ⟨hw, rfl⟩) hS h
end Go.Proofs.Ytpcmihgfcaelfaa
namespace Go.Proofs.Ytpcmihgfcaelfaa
open Go.RowKit

set_option maxRecDepth 100000 in
set_option maxHeartbeats 4000000 in
theorem sized_any (t : NodeD) : ∀ (a b c : Value) (low : Int) (w : World), NodeAt w t a b c → 0 ≤ low → low ≤ 2 → Calls Try.prog 80 #[.agg #[a, b, c], .int .i64 low] w fun e w' => e = .returned (.bool (sizedN t low)) ∧ Below w.heap.size w w' := by
  induction t using NodeD.ind with
  | h ks vs kids ih =>
    intro a b c low w hn hl1 hl2
    have HIH := Lib.hid ih; clear ih
    obtain ⟨⟨pa, ca, rfl, a1, a2, ha⟩, ⟨pb, cb, rfl, b1, b2, hbv⟩, ⟨pc, cc, rfl, c1, c2, hk⟩⟩ := nodeAt_iff.1 hn
    simp only [NodeD.keys, NodeD.vals, NodeD.kids] at a1 b1 c1 ha hk ⊢
    have HK := Lib.hid hk; have HAK := Lib.hid ha; clear hk hn ha hbv
    obtain ⟨K, hK⟩ : ∃ K, ks.length = K := ⟨_, rfl⟩
    obtain ⟨M, hM⟩ : ∃ M, vs.length = M := ⟨_, rfl⟩
    obtain ⟨N, hN⟩ : ∃ N, kids.length = N := ⟨_, rfl⟩
    rw [hK] at a1 ⊢; rw [hM] at b1 ⊢; rw [hN] at c1 ⊢
    have hla : (K : Int) ≤ 9223372036854775807 := by unfold maxLen at a2; omega
    have hlb : (M : Int) ≤ 9223372036854775807 := by unfold maxLen at b2; omega
    have hlc : (N : Int) ≤ 9223372036854775807 := by unfold maxLen at c2; omega
    have HKL := Lib.hid hK; have HML := Lib.hid hM; have HNL := Lib.hid hN
    clear a1 b1 c1 a2 b2 c2 hK hM hN
    have HS0 := Lib.hid (show sizedN (.mk ks vs kids) low = (decide (low ≤ (K : Int) ∧ K ≤ 4) && (if N = 0 then decide (M = K) else decide (M = 0 ∧ N = K ∧ 2 ≤ K) && sizedL kids ks)) by simp only [sizedN]; rw [HKL.out, HML.out, HNL.out])
    have HB0 := Lib.hid (show Below w.heap.size w (w.alloc (.cells #[.slice pa K ca, .slice pb M cb, .slice pc N cc] 43)) from (Below.refl _ _).alloc (Nat.le_refl _) _)
    by_cases hA : low ≤ (K : Int) ∧ K ≤ 4
    case neg =>
      have HF := Lib.hid (show sizedN (.mk ks vs kids) low = false by rw [HS0.out, decide_eq_false hA, Bool.false_and])
      have hc : ((K : Int) < low) ∨ (¬ (K : Int) < low ∧ 4 < (K : Int)) := by omega
      clear hA
      rcases hc with h1 | ⟨h1, h2⟩
      all_goals
        go_enter Try.func80, Try.ntmps80
        go_wp2_with fail
        go_ret
        exact ⟨retB HF.out.symm, HB0.out⟩
    have hA3 : ¬ (K : Int) < low := by omega
    have hA4 : ¬ 4 < (K : Int) := by omega
    have HA := Lib.hid hA
    by_cases hB : N = 0
    · have HF := Lib.hid (show sizedN (.mk ks vs kids) low = decide (M = K) by rw [HS0.out, decide_eq_true hA, Bool.true_and, if_pos hB])
      have hz : ((N : Int) == 0) = true := by rw [hB]; rfl
      clear hA hB
      by_cases hv : M = K
      · have HV := Lib.hid hv
        have hvb : ((M : Int) == (K : Int)) = true := by rw [hv]; simp
        clear hv
        go_enter Try.func80, Try.ntmps80
        go_wp2_with fail
        go_ret
        exact ⟨retB (by rw [HF.out, decide_eq_true HV.out]), HB0.out⟩
      · have HV := Lib.hid hv
        have hvb : ((M : Int) == (K : Int)) = false := by rw [beq_eq_false_iff_ne]; omega
        clear hv
        go_enter Try.func80, Try.ntmps80
        go_wp2_with fail
        go_ret
        exact ⟨retB (by rw [HF.out, decide_eq_false HV.out]), HB0.out⟩
    have hz : ((N : Int) == 0) = false := by rw [beq_eq_false_iff_ne]; omega
    by_cases hC : M = 0 ∧ N = K ∧ 2 ≤ K
    case neg =>
      have HF := Lib.hid (show sizedN (.mk ks vs kids) low = false by rw [HS0.out, decide_eq_true hA, Bool.true_and, if_neg hB, decide_eq_false hC, Bool.false_and])
      have hc : (0 < M) ∨ (decide (0 < M) = false ∧ N ≠ K) ∨ (decide (0 < M) = false ∧ N = K ∧ (K : Int) < 2) := by
        rw [decide_eq_false_iff_not]; omega
      clear hC hA hB
      rcases hc with h1 | ⟨h1, h2⟩ | ⟨h1, h2, h3⟩
      · go_enter Try.func80, Try.ntmps80
        go_wp2_with fail
        go_ret
        exact ⟨retB HF.out.symm, HB0.out⟩
      · have hne : ((N : Int) != (K : Int)) = true := by rw [bne_iff_ne]; omega
        clear h2
        go_enter Try.func80, Try.ntmps80
        go_wp2_with fail
        go_ret
        exact ⟨retB HF.out.symm, HB0.out⟩
      · have hne : ((N : Int) != (K : Int)) = false := by rw [h2]; simp
        clear h2
        go_enter Try.func80, Try.ntmps80
        go_wp2_with fail
        go_ret
        exact ⟨retB HF.out.symm, HB0.out⟩
    have HFC := Lib.hid (show sizedN (.mk ks vs kids) low = sizedL kids ks by rw [HS0.out, decide_eq_true hA, Bool.true_and, if_neg hB, decide_eq_true hC, Bool.true_and])
    obtain ⟨hC1, hC2, hC3⟩ := hC
    have hne : ((N : Int) != (K : Int)) = false := by rw [hC2]; simp
    have hv0 : decide (0 < M) = false := by rw [decide_eq_false_iff_not]; omega
    have hk2 : ¬ (K : Int) < 2 := by omega
    subst hC2
    have HC3 := Lib.hid hC3
    clear hA hB hC1 hC3 HA HS0
    go_enter Try.func80, Try.ntmps80
    go_wp2_with fail
    go_loopw [6] (fun i wr => ∃ k : Nat, k ≤ N ∧ i = .int .i64 k ∧ (∀ (j : Nat) (s : NodeD), j < k → kids[j]? = some s → sizedN s 2 = true ∧ s.keys.head? = ks[j]?) ∧ NBox w.heap.size (.slice pa N ca) (.slice pb M cb) (.slice pc N cc) wr ∧ Below w.heap.size w wr) (fun i _ => N - (intOf i).toNat)
    case atStart => exact ⟨0, Nat.zero_le _, rfl, fun j s hj => by omega, ⟨by simp, by simp, by simp⟩, HB0.out⟩
    case round =>
      obtain ⟨k, hk, rfl, hall, hbx, hb⟩ := hrel
      have HAL := Lib.hid hall; have HX := Lib.hid hbx; have HB := Lib.hid hb
      obtain ⟨q0, q1, q2⟩ := hbx
      have hlx := World.block_lt_of_cell? _ _ q0
      clear hall hb
      by_cases hlt : k < N
      case neg =>
        obtain rfl : k = N := by omega
        have HF := Lib.hid (show sizedN (.mk ks vs kids) low = true by
          rw [HFC.out, sizedL_iff]
          intro j s hj
          exact HAL.out j s (by have := (List.getElem?_eq_some_iff.1 hj).1; rw [HNL.out] at this; exact this) hj)
        go_wp2_with fail
        go_ret
        exact ⟨retB HF.out.symm, HB.out⟩
      have hki : (k : Int) < (N : Int) := by omega
      obtain ⟨s, hs⟩ : ∃ s, kids[k]? = some s := ⟨_, List.getElem?_eq_getElem (by rw [HNL.out]; exact hlt)⟩
      obtain ⟨x, hx⟩ : ∃ x, ks[k]? = some x := ⟨_, List.getElem?_eq_getElem (by rw [HKL.out]; exact hlt)⟩
      obtain ⟨g, o, x1, y, z, rfl, e1, e2, e3, e4⟩ := HK.out k s hs
      obtain ⟨_, ga, oa, rfl, hxa⟩ := HAK.out k x hx
      have r1 := cell_stays HB.out e1; have r2 := cell_stays HB.out e2; have r3 := cell_stays HB.out e3
      have rx := cell_stays HB.out hxa
      have HNN := Lib.hid (show NodeAt wr.drew s x1 y z from (e4.keep (keeps_below HB.out)).keep (keeps_below (Below.refl _ _).drew))
      have HS := Lib.hid hs; have HM := Lib.hid (List.mem_of_getElem? hs); have HXX := Lib.hid hx
      clear hs hx e1 e2 e3 e4 hxa
      cases hsz : sizedN s 2 with
      | false =>
        have HT := Lib.hid hsz; clear hsz
        have HF := Lib.hid (show sizedN (.mk ks vs kids) low = false by
          rw [HFC.out, ← Bool.not_eq_true, sizedL_iff]
          intro h
          have := (h k s HS.out).1
          rw [HT.out] at this; exact absurd this (by simp))
        clear rx
        go_wp2_with fail
        refine wp_region_held_drew (S := fun w' => w'.cell? ⟨w.heap.size, 2, none⟩ = some (.slice (some ⟨g, o, none⟩) N cc) ∧ w'.cell? ⟨g, o + k * 3, none⟩ = some x1 ∧ w'.cell? ⟨g, o + k * 3 + 1, none⟩ = some y ∧ w'.cell? ⟨g, o + k * 3 + 2, none⟩ = some z) (by kernel_rfl) ⟨q2, r1, r2, r3⟩ (fun hHeld => ?_)
        refine take_at (i := 0) (d := some 46) (v := .pointer (some ⟨w.heap.size, 2, none⟩)) rfl rfl (by kernel_rfl) (by kernel_rfl) (by kernel_rfl) (fun _ _ _ h => h) hHeld (by kernel_rfl) (fun w' hSw => by (try dsimp only at hSw); go_split_ands; go_simp) ?_
        simp only [Act.put, List.setIfInBounds_toArray, List.set_cons_zero, List.set_cons_succ]
        refine take_at (i := 1) (d := some 47) (v := .slice (some ⟨g, o, none⟩) N cc) rfl rfl (by kernel_rfl) (by kernel_rfl) (by kernel_rfl) (fun _ _ _ h => h) hHeld (by kernel_rfl) (fun w' hSw => by (try dsimp only at hSw); go_split_ands; go_simp) ?_
        simp only [Act.put, List.setIfInBounds_toArray, List.set_cons_zero, List.set_cons_succ]
        refine take_at (i := 2) (d := some 48) (v := .int .i64 k) rfl rfl (by kernel_rfl) (by kernel_rfl) (by kernel_rfl) (fun _ _ _ h => h) hHeld (by kernel_rfl) (fun w' hSw => by (try dsimp only at hSw); go_split_ands; go_simp) ?_
        simp only [Act.put, List.setIfInBounds_toArray, List.set_cons_zero, List.set_cons_succ]
        refine take_at (i := 3) (d := some 49) (v := .pointer (some ⟨g, o + k * 3, none⟩)) rfl rfl (by kernel_rfl) (by kernel_rfl) (by kernel_rfl) (fun _ _ _ h => h) hHeld (by kernel_rfl) (fun w' hSw => by (try dsimp only at hSw); go_split_ands; go_simp) ?_
        simp only [Act.put, List.setIfInBounds_toArray, List.set_cons_zero, List.set_cons_succ]
        refine take_at (i := 4) (d := some 50) (v := .agg #[x1, y, z]) rfl rfl (by kernel_rfl) (by kernel_rfl) (by kernel_rfl) (fun _ _ _ h => h) hHeld (by kernel_rfl) (fun w' hSw => by (try dsimp only at hSw); go_split_ands; go_simp) ?_
        simp only [Act.put, List.setIfInBounds_toArray, List.set_cons_zero, List.set_cons_succ]
        refine wpAnyH_ready (rs := [5]) (by kernel_rfl) (by simp) ?_
        refine AllReadyH.cons rfl (fun K hK => ?_) AllReadyH.nil
        go_simp
        refine (HIH.out s HM.out x1 y z 2 _ HNN.out (by omega) (by omega)).mono ?_
        rintro e w1 ⟨rfl, hb⟩
        have HB1 := Lib.hid (btrans (Below.refl _ wr).drew hb)
        have HKP := Lib.hid (And.intro (cell_stays hb (show wr.drew.cell? _ = _ from q2)) (And.intro (cell_stays hb (show wr.drew.cell? _ = _ from r1)) (And.intro (cell_stays hb (show wr.drew.cell? _ = _ from r2)) (cell_stays hb (show wr.drew.cell? _ = _ from r3)))))
        clear hb
        rw [HT.out]
        clear hHeld
        go_simp
        refine hK.out _ _ HKP.out (fun hHeld => ?_)
        clear hK K
        refine take_at (i := 6) (d := some 52) (v := .bool true) rfl rfl (by kernel_rfl) (by kernel_rfl) (by kernel_rfl) (fun _ _ _ h => h) hHeld (by kernel_rfl) (fun w' hSw => by (try dsimp only at hSw); go_split_ands; go_simp) ?_
        simp only [Act.put, List.setIfInBounds_toArray, List.set_cons_zero, List.set_cons_succ]
        refine take_at (i := 7) (d := some 53) (v := .bool true) rfl rfl (by kernel_rfl) (by kernel_rfl) (by kernel_rfl) (fun _ _ _ h => h) hHeld (by kernel_rfl) (fun w' hSw => by (try dsimp only at hSw); go_split_ands; go_simp) ?_
        simp only [Act.put, List.setIfInBounds_toArray, List.set_cons_zero, List.set_cons_succ]
        refine skip_at (i := 8) (d := some 54) rfl rfl (by kernel_rfl) (by kernel_rfl) (by kernel_rfl) (fun _ _ _ h => h) hHeld (by kernel_rfl) ?_
        simp only [Act.put, List.setIfInBounds_toArray, List.set_cons_zero, List.set_cons_succ]
        refine skip_at (i := 9) (d := some 55) rfl rfl (by kernel_rfl) (by kernel_rfl) (by kernel_rfl) (fun _ _ _ h => h) hHeld (by kernel_rfl) ?_
        simp only [Act.put, List.setIfInBounds_toArray, List.set_cons_zero, List.set_cons_succ]
        refine skip_at (i := 10) (d := some 56) rfl rfl (by kernel_rfl) (by kernel_rfl) (by kernel_rfl) (fun _ _ _ h => h) hHeld (by kernel_rfl) ?_
        simp only [Act.put, List.setIfInBounds_toArray, List.set_cons_zero, List.set_cons_succ]
        refine skip_at (i := 11) (d := some 57) rfl rfl (by kernel_rfl) (by kernel_rfl) (by kernel_rfl) (fun _ _ _ h => h) hHeld (by kernel_rfl) ?_
        simp only [Act.put, List.setIfInBounds_toArray, List.set_cons_zero, List.set_cons_succ]
        refine skip_at (i := 12) (d := some 58) rfl rfl (by kernel_rfl) (by kernel_rfl) (by kernel_rfl) (fun _ _ _ h => h) hHeld (by kernel_rfl) ?_
        simp only [Act.put, List.setIfInBounds_toArray, List.set_cons_zero, List.set_cons_succ]
        refine skip_at (i := 13) (d := some 59) rfl rfl (by kernel_rfl) (by kernel_rfl) (by kernel_rfl) (fun _ _ _ h => h) hHeld (by kernel_rfl) ?_
        simp only [Act.put, List.setIfInBounds_toArray, List.set_cons_zero, List.set_cons_succ]
        refine skip_at (i := 14) (d := some 60) rfl rfl (by kernel_rfl) (by kernel_rfl) (by kernel_rfl) (fun _ _ _ h => h) hHeld (by kernel_rfl) ?_
        simp only [Act.put, List.setIfInBounds_toArray, List.set_cons_zero, List.set_cons_succ]
        refine skip_at (i := 15) (d := some 61) rfl rfl (by kernel_rfl) (by kernel_rfl) (by kernel_rfl) (fun _ _ _ h => h) hHeld (by kernel_rfl) ?_
        simp only [Act.put, List.setIfInBounds_toArray, List.set_cons_zero, List.set_cons_succ]
        refine skip_at (i := 16) (d := some 62) rfl rfl (by kernel_rfl) (by kernel_rfl) (by kernel_rfl) (fun _ _ _ h => h) hHeld (by kernel_rfl) ?_
        simp only [Act.put, List.setIfInBounds_toArray, List.set_cons_zero, List.set_cons_succ]
        refine skip_at (i := 17) (d := some 63) rfl rfl (by kernel_rfl) (by kernel_rfl) (by kernel_rfl) (fun _ _ _ h => h) hHeld (by kernel_rfl) ?_
        simp only [Act.put, List.setIfInBounds_toArray, List.set_cons_zero, List.set_cons_succ]
        refine skip_at (i := 18) (d := some 64) rfl rfl (by kernel_rfl) (by kernel_rfl) (by kernel_rfl) (fun _ _ _ h => h) hHeld (by kernel_rfl) ?_
        simp only [Act.put, List.setIfInBounds_toArray, List.set_cons_zero, List.set_cons_succ]
        refine skip_at (i := 19) (d := some 65) rfl rfl (by kernel_rfl) (by kernel_rfl) (by kernel_rfl) (fun _ _ _ h => h) hHeld (by kernel_rfl) ?_
        simp only [Act.put, List.setIfInBounds_toArray, List.set_cons_zero, List.set_cons_succ]
        refine skip_at (i := 20) (d := some 66) rfl rfl (by kernel_rfl) (by kernel_rfl) (by kernel_rfl) (fun _ _ _ h => h) hHeld (by kernel_rfl) ?_
        simp only [Act.put, List.setIfInBounds_toArray, List.set_cons_zero, List.set_cons_succ]
        refine skip_at (i := 21) (d := some 67) rfl rfl (by kernel_rfl) (by kernel_rfl) (by kernel_rfl) (fun _ _ _ h => h) hHeld (by kernel_rfl) ?_
        simp only [Act.put, List.setIfInBounds_toArray, List.set_cons_zero, List.set_cons_succ]
        refine take_at (i := 22) (d := some 68) (v := .bool true) rfl rfl (by kernel_rfl) (by kernel_rfl) (by kernel_rfl) (fun _ _ _ h => h) hHeld (by kernel_rfl) (fun w' hSw => by (try dsimp only at hSw); go_split_ands; go_simp) ?_
        simp only [Act.put, List.setIfInBounds_toArray, List.set_cons_zero, List.set_cons_succ]
        refine wpAnyH_done (by kernel_rfl) ?_ _
        go_wp2_with fail
        go_ret
        exact ⟨retB HF.out.symm, btrans HB.out HB1.out⟩
      | true =>
        obtain ⟨⟨p', c', rfl, l1, l2, hkeys⟩, _, _⟩ := nodeAt_iff.1 HNN.out
        have HL := Lib.hid (sized_low hsz)
        obtain ⟨h, hh⟩ : ∃ h, s.keys[0]? = some h := ⟨_, List.getElem?_eq_getElem (by have := HL.out; omega)⟩
        obtain ⟨_, gh, oh, rfl, hhc⟩ := hkeys 0 h hh
        simp only [Nat.add_zero] at hhc
        have hkl : (0 : Int) < (s.keys.length : Int) := by have := HL.out; omega
        obtain ⟨KK, hKK⟩ : ∃ KK, s.keys.length = KK := ⟨_, rfl⟩
        rw [hKK] at hkl r1 HNN l1
        have hkk2 : 0 < KK := by omega
        have hkk3 : (KK : Int) ≤ 9223372036854775807 := by unfold maxLen at l2; omega
        have HHH := Lib.hid (show s.keys.head? = some h by rw [List.head?_eq_getElem?]; exact hh)
        have HT := Lib.hid hsz; clear hsz hh hkeys l1 l2 hKK
        by_cases hxe : h = x
        · have hxb : (h != x) = false := by rw [hxe]; simp
          have HXE := Lib.hid hxe; clear hxe
          go_wp2_with fail
          go_region_held3 (fun w' => w'.cell? ⟨w.heap.size, 2, none⟩ = some (.slice (some ⟨g, o, none⟩) N cc) ∧ w'.cell? ⟨w.heap.size, 0, none⟩ = some (.slice (some ⟨ga, oa, none⟩) N ca) ∧ w'.cell? ⟨g, o + k * 3, none⟩ = some (.slice (some ⟨gh, oh, none⟩) KK c') ∧ w'.cell? ⟨g, o + k * 3 + 1, none⟩ = some y ∧ w'.cell? ⟨g, o + k * 3 + 2, none⟩ = some z ∧ w'.cell? ⟨ga, oa + k, none⟩ = some (.int .i64 x) ∧ w'.cell? ⟨gh, oh, none⟩ = some (.int .i64 h))
            (first | exact ⟨q2, q0, r1, r2, r3, rx, hhc⟩ | exact HKP.out)
            (((with_reducible refine (HIH.out s HM.out _ y z 2 _ HNN.out (by omega) (by omega)).mono ?_); rintro e w1 ⟨rfl, hb⟩; have HB1 := Lib.hid (btrans (Below.refl _ wr).drew hb); have HKP := Lib.hid (And.intro (cell_stays hb (show wr.drew.cell? _ = _ from q2)) (And.intro (cell_stays hb (show wr.drew.cell? _ = _ from q0)) (And.intro (cell_stays hb (show wr.drew.cell? _ = _ from r1)) (And.intro (cell_stays hb (show wr.drew.cell? _ = _ from r2)) (And.intro (cell_stays hb (show wr.drew.cell? _ = _ from r3)) (And.intro (cell_stays hb (show wr.drew.cell? _ = _ from rx)) (cell_stays hb (show wr.drew.cell? _ = _ from hhc)))))))); clear hb; rw [HT.out]))
          go_wp2_with fail
          go_roundw
          case rel =>
            refine ⟨k + 1, by omega, by go_num, fun j s' hj hs' => ?_, HX.out.below HB1.out, btrans HB.out HB1.out⟩
            by_cases e : j = k
            · subst e
              rw [HS.out] at hs'; cases hs'
              exact ⟨HT.out, by rw [HHH.out, HXX.out, HXE.out]⟩
            · exact HAL.out j s' (by omega) hs'
          case measure => simp [intOf]; omega
        · have hxb : (h != x) = true := by rw [bne_iff_ne]; exact hxe
          have HF := Lib.hid (show sizedN (.mk ks vs kids) low = false by
            rw [HFC.out, ← Bool.not_eq_true, sizedL_iff]
            intro hall
            have := (hall k s HS.out).2
            rw [HHH.out, HXX.out] at this
            injection this with this
            exact hxe this)
          clear hxe
          go_wp2_with fail
          go_region_held3 (fun w' => w'.cell? ⟨w.heap.size, 2, none⟩ = some (.slice (some ⟨g, o, none⟩) N cc) ∧ w'.cell? ⟨w.heap.size, 0, none⟩ = some (.slice (some ⟨ga, oa, none⟩) N ca) ∧ w'.cell? ⟨g, o + k * 3, none⟩ = some (.slice (some ⟨gh, oh, none⟩) KK c') ∧ w'.cell? ⟨g, o + k * 3 + 1, none⟩ = some y ∧ w'.cell? ⟨g, o + k * 3 + 2, none⟩ = some z ∧ w'.cell? ⟨ga, oa + k, none⟩ = some (.int .i64 x) ∧ w'.cell? ⟨gh, oh, none⟩ = some (.int .i64 h))
            (first | exact ⟨q2, q0, r1, r2, r3, rx, hhc⟩ | exact HKP.out)
            (((with_reducible refine (HIH.out s HM.out _ y z 2 _ HNN.out (by omega) (by omega)).mono ?_); rintro e w1 ⟨rfl, hb⟩; have HB1 := Lib.hid (btrans (Below.refl _ wr).drew hb); have HKP := Lib.hid (And.intro (cell_stays hb (show wr.drew.cell? _ = _ from q2)) (And.intro (cell_stays hb (show wr.drew.cell? _ = _ from q0)) (And.intro (cell_stays hb (show wr.drew.cell? _ = _ from r1)) (And.intro (cell_stays hb (show wr.drew.cell? _ = _ from r2)) (And.intro (cell_stays hb (show wr.drew.cell? _ = _ from r3)) (And.intro (cell_stays hb (show wr.drew.cell? _ = _ from rx)) (cell_stays hb (show wr.drew.cell? _ = _ from hhc)))))))); clear hb; rw [HT.out]))
          go_wp2_with fail
          go_ret
          exact ⟨retB HF.out.symm, btrans HB.out HB1.out⟩
end Go.Proofs.Ytpcmihgfcaelfaa
namespace Go.Proofs.Ytpcmihgfcaelfaa
open Go.RowKit

/-- pairs behind a slice value -/
def PairsAt (w : World) (v : Value) (l : List PairD) : Prop :=
  ∃ p c, v = .slice p l.length c ∧ l.length ≤ c ∧ c ≤ maxLen ∧ ∀ i x, l[i]? = some x → ∃ g o, p = some ⟨g, o, none⟩ ∧ w.cell? ⟨g, o + i * 2, none⟩ = some (.int .i64 x.1) ∧ w.cell? ⟨g, o + i * 2 + 1, none⟩ = some (.int .i64 x.2)
theorem PairsAt.keep {w w' : World} {v : Value} {l : List PairD} (h : PairsAt w v l) (hk : Keeps w w') : PairsAt w' v l := by
  obtain ⟨p, c, h1, h2, h3, h4⟩ := h
  refine ⟨p, c, h1, h2, h3, fun i x hx => ?_⟩
  obtain ⟨g, o, e1, e2, e3⟩ := h4 i x hx
  exact ⟨g, o, e1, hk _ _ e2, hk _ _ e3⟩
def PBd (l : List PairD) : Prop := ∀ x ∈ l, i64B x.1 ∧ i64B x.2
theorem pairs_cell (l : List PairD) : ∀ (i : Nat) (x : PairD), l[i]? = some x → (pairRows l).flatten[i * 2]? = some (.int .i64 x.1) ∧ (pairRows l).flatten[i * 2 + 1]? = some (.int .i64 x.2) := by
  induction l with
  | nil => intro i x h; simp at h
  | cons a l ih =>
    intro i x h
    unfold pairRows pairCs at ih ⊢
    cases i with
    | zero => simp only [List.getElem?_cons_zero, Option.some.injEq] at h; subst h; exact ⟨rfl, rfl⟩
    | succ i =>
      rw [List.getElem?_cons_succ] at h
      obtain ⟨h1, h2⟩ := ih i x h
      simp only [List.map_cons, List.flatten_cons, List.cons_append, List.nil_append]
      rw [show (i + 1) * 2 = i * 2 + 1 + 1 by omega, List.getElem?_cons_succ, List.getElem?_cons_succ, List.getElem?_cons_succ, List.getElem?_cons_succ]
      exact ⟨h1, h2⟩
theorem pairs_len (l : List PairD) : (pairRows l).flatten.length = l.length * 2 := by
  induction l with
  | nil => rfl
  | cons a l ih =>
    unfold pairRows pairCs at ih ⊢
    simp only [List.map_cons, List.flatten_cons, List.cons_append, List.nil_append, List.length_cons, ih]; omega
/-- a row of the call's own reads as its pairs -/
theorem pairs_of_row {w : World} {B : Nat} {v : Value} {l : List PairD} (h : w.ownsRow B 66 2 v l.length (pairRows l).flatten) : PairsAt w v l := by
  rcases ow_slice h with ⟨hv, hn, _⟩ | ⟨g, cap, hv⟩
  · exact ⟨none, 0, by rw [hv, hn], by omega, by unfold maxLen; omega, fun i x hx => by rw [List.eq_nil_of_length_eq_zero hn] at hx; simp at hx⟩
  · subst hv
    obtain ⟨_, _, _, h3, h4, _⟩ := own_block h
    refine ⟨_, cap, rfl, h3, h4, fun i x hx => ⟨g, 0, rfl, ?_⟩⟩
    obtain ⟨h1, h2⟩ := pairs_cell l i x hx
    have hi := (List.getElem?_eq_some_iff.1 hx).1
    have hl := pairs_len l
    constructor
    · have := ow_cell h (i * 2) (by omega)
      rw [List.getElem?_eq_getElem (by omega)] at h1
      rw [Nat.zero_add, this]; exact h1
    · have := ow_cell h (i * 2 + 1) (by omega)
      rw [List.getElem?_eq_getElem (by omega)] at h2
      rw [Nat.zero_add, this]; exact h2
/-- one pair more behind a row of the call's own -/
theorem pair_append (W : World) (B n : Nat) (v : Value) (l : List PairD) (x y : Int) (hown : W.ownsRow B 66 2 v n (pairRows l).flatten) (hn : n ≤ 1000000) (hB : B ≤ W.heap.size) :
    ∃ g cap w2, (Builtin.append_ #[38, 38] 38 #[v, .slice (some ⟨W.heap.size, 0, none⟩) 1 1]).run Try.prog (W.alloc (.cells #[.int .i64 x, .int .i64 y] 66)) = .ok (.slice (some ⟨g, 0, none⟩) (n + 1) cap) w2 ∧
      w2.ownsRow B 66 2 (.slice (some ⟨g, 0, none⟩) (n + 1) cap) (n + 1) (pairRows (l ++ [(x, y)])).flatten ∧ Below B W w2 := by
  obtain ⟨i0, hi0, hz0, hz1, hz2⟩ := info_parts infoP
  obtain ⟨v', w', h1, h2, h3, _⟩ := run_append_own_at (P := Try.prog) (W.alloc (.cells #[.int .i64 x, .int .i64 y] 66)) B 38 38 66 i0 (.agg #[.int .i64 0, .int .i64 0]) 2 16 Try.underlying38 hi0 hz0 hz1 hz2 rfl (by decide) v n _ (hown.alloc _) ⟨W.heap.size, 0, none⟩ 1 1 [.int .i64 x, .int .i64 y] rfl new_pair (by intro u hu; simp only [List.mem_cons, List.not_mem_nil, or_false] at hu; rcases hu with rfl | rfl <;> rfl) (by unfold maxLen; omega) (by omega) (by simp; omega)
  obtain ⟨g, cap, rfl⟩ := ownsRow_succ h2
  refine ⟨g, cap, w', h1, ?_, ?_⟩
  · rw [pairRows_snoc]; exact h2
  · exact ow_grown (Below.refl _ _) hB hown h3

/-- ints of the call's own -/
def intVs (l : List Int) : List Value := l.map (.int .i64)
theorem infoI : (Try.prog.info? 3).map (fun i => (i.zero, i.size, i.bytes)) = some (some (.int .i64 0), 1, 8) := by kernel_rfl
theorem ints_of_row {w : World} {B : Nat} {v : Value} {l : List Int} (hl : ∀ x ∈ l, i64B x) (h : w.ownsRow B 3 1 v l.length (intVs l)) : IntsAt w v l := by
  rcases ow_slice h with ⟨hv, hn, _⟩ | ⟨g, cap, hv⟩
  · exact ⟨none, 0, by rw [hv, hn], by omega, by unfold maxLen; omega, fun i x hx => by rw [List.eq_nil_of_length_eq_zero hn] at hx; simp at hx⟩
  · subst hv
    obtain ⟨_, _, _, h3, h4, _⟩ := own_block h
    refine ⟨_, cap, rfl, h3, h4, fun i x hx => ⟨hl x (List.mem_of_getElem? hx), g, 0, rfl, ?_⟩⟩
    have hi := (List.getElem?_eq_some_iff.1 hx).1
    have := ow_cell h i (by unfold intVs; rw [List.length_map]; exact hi)
    rw [Nat.zero_add, this]
    unfold intVs
    rw [List.getElem_map]
    obtain ⟨_, rfl⟩ := List.getElem?_eq_some_iff.1 hx
    rfl
theorem int_append (W : World) (B n : Nat) (v : Value) (l : List Int) (x : Int) (hown : W.ownsRow B 3 1 v n (intVs l)) (hn : n ≤ 1000000) (hB : B ≤ W.heap.size) :
    ∃ g cap w2, (Builtin.append_ #[40, 40] 40 #[v, .slice (some ⟨W.heap.size, 0, none⟩) 1 1]).run Try.prog (W.alloc (.cells #[.int .i64 x] 3)) = .ok (.slice (some ⟨g, 0, none⟩) (n + 1) cap) w2 ∧
      w2.ownsRow B 3 1 (.slice (some ⟨g, 0, none⟩) (n + 1) cap) (n + 1) (intVs (l ++ [x])) ∧ Below B W w2 := by
  obtain ⟨i0, hi0, hz0, hz1, hz2⟩ := info_parts infoI
  obtain ⟨v', w', h1, h2, h3, _⟩ := run_append_own_at (P := Try.prog) (W.alloc (.cells #[.int .i64 x] 3)) B 40 40 3 i0 (.int .i64 0) 1 8 Try.underlying40 hi0 hz0 hz1 hz2 rfl (by decide) v n _ (hown.alloc _) ⟨W.heap.size, 0, none⟩ 1 1 [.int .i64 x] rfl (by
      intro j u hu
      rw [ow_at, World.cell?_alloc_at _ _ _ _ rfl]
      rcases j with _ | j
      · exact hu
      · simp at hu) (by intro u hu; simp only [List.mem_cons, List.not_mem_nil, or_false] at hu; subst hu; rfl) (by unfold maxLen; omega) (by omega) (by simp; omega)
  obtain ⟨g, cap, rfl⟩ := ownsRow_succ h2
  refine ⟨g, cap, w', h1, ?_, ?_⟩
  · unfold intVs at *; rw [List.map_append]; exact h2
  · exact ow_grown (Below.refl _ _) hB hown h3
/-- the bounds of a tree's pairs -/
theorem pairsN_bd (t : NodeD) : ∀ {w : World} {a b c : Value}, NodeAt w t a b c → PBd (pairsN t) := by
  induction t using NodeD.ind with
  | h ks vs kids ih =>
    intro w a b c h x hx
    rw [nodeAt_iff] at h
    obtain ⟨⟨_, _, _, _, _, h1⟩, ⟨_, _, _, _, _, h2⟩, _, _, _, _, _, h3⟩ := h
    simp only [NodeD.keys, NodeD.vals, NodeD.kids] at h1 h2 h3
    simp only [pairsN, List.mem_append] at hx
    rcases hx with hx | hx
    · split at hx
      · have hm := List.of_mem_zip (show (x.1, x.2) ∈ ks.zip vs from hx)
        obtain ⟨i, hi⟩ := List.mem_iff_getElem?.1 hm.1
        obtain ⟨j, hj⟩ := List.mem_iff_getElem?.1 hm.2
        exact ⟨(h1 i _ hi).1, (h2 j _ hj).1⟩
      · simp at hx
    · rw [pairsL_flat, List.mem_flatten] at hx
      obtain ⟨q, hq, hx⟩ := hx
      rw [List.mem_map] at hq
      obtain ⟨s, hs, rfl⟩ := hq
      obtain ⟨j, hj⟩ := List.mem_iff_getElem?.1 hs
      obtain ⟨g, o, _, _, _, _, _, _, _, e⟩ := h3 j s hj
      exact ih s hs e x hx
end Go.Proofs.Ytpcmihgfcaelfaa
