/- The walk of the program's iterator over a tree's pairs. · The walk of the program's Walk over a tree. · The walks of the reference's With and Without (layer 18). · Counting, as the reference does: plain. · The walks of the reference's Counts and Cut (layer 18). -/
import Derived.Test.YtpcmihgfcaelfaaIF
import Derived.RangeFuncNested
import Derived.RangeFuncBound
import Derived.RangeFuncCalls
import Derived.Shelf.Abstract
import Derived.Shelf.RegionOpen
import Derived.OwnWalkIn
import Derived.TacticsInMore
import Derived.LoopNIn
import Derived.LoopIn
import Derived.Outline
import Derived.Test.YtpcmihgfcaelfaaIE
namespace Go.Proofs.Ytpcmihgfcaelfaa
open Go.RowKit Go.Shelf
attribute [local go_sem] Oper.semAt_some

/-- a leaf whose values are as many as its keys; all leaves so -/
def LeafsOk : NodeD → Prop := fun t => ∃ low, sizedN t low = true
def encP (x : PairD) : Array Value := #[.agg #[.int .i64 x.1, .int .i64 x.2]]
/-- what an iterator that reads in M is handed -/
structure Env (l : Nat) (L : List PairD) (J : (Nat → Prop) → List PairD → World → Prop) (Jx : List PairD → World → Prop) : Prop where
  keep : ∀ M M' s A B, J M s A → A.grownBy B none → New M M' A B → J M' s B
  keepx : ∀ s A B, Jx s A → A.grownBy B none → Jx s B
  yield : ∀ m M pre x W1, J M pre W1 → pre ++ [x] <+: L → YieldAt Fence.wide m Try.prog l (encP x) W1 fun e W' => (e = .returned (.bool true) ∧ J M (pre ++ [x]) W' ∧ Keep M W1 W') ∨ (e = .returned (.bool false) ∧ Jx (pre ++ [x]) W')
def addM (M : Nat → Prop) (b : Nat) : Nat → Prop := fun k => M k ∨ k = b
theorem new_add (M : Nat → Prop) (W : World) (o : Obj) : New M (addM M W.heap.size) W (W.alloc o) := fun b hb => by
  rcases hb with hb | rfl
  · exact .inl hb
  · exact .inr (by simp)
/-- what each leaves -/
def EachPost (J : (Nat → Prop) → List PairD → World → Prop) (Jx : List PairD → World → Prop) (M : Nat → Prop) (pre l : List PairD) (W : World) (e : Ending) (W' : World) : Prop :=
  (e = .returned (.bool true) ∧ (∃ M', (∀ b, M b → M' b) ∧ J M' (pre ++ l) W') ∧ Keep M W W') ∨ (e = .returned (.bool false) ∧ ∃ q, q <+: l ∧ Jx (pre ++ q) W')
set_option maxRecDepth 100000 in
set_option maxHeartbeats 4000000 in
theorem each_in (l : Nat) (L : List PairD) (J : (Nat → Prop) → List PairD → World → Prop) (Jx : List PairD → World → Prop) (E : Env l L J Jx) (t : NodeD) :
    ∀ (n : Nat) (a b c : Value) (low : Int) (M : Nat → Prop) (pre : List PairD) (W : World), sizedN t low = true → NodeAt (mask M W) t a b c → J M pre W → pre ++ pairsN t <+: L →
      CallsIn Fence.wide n Try.prog 78 #[.agg #[a, b, c], .func (.yield l) #[] #[]] W (EachPost J Jx M pre (pairsN t) W) := by
  induction t using NodeD.ind with
  | h ks vs kids ih =>
    intro n a b c low M pre W hsz hn hj hN
    have HIH := Lib.hid ih; clear ih
    have HE := Lib.hid E; clear E
    have HNN := Lib.hid hn
    obtain ⟨⟨pa, ca, rfl, a1, a2, ha⟩, ⟨pb, cb, rfl, b1, b2, hbv⟩, ⟨pc, cc, rfl, c1, c2, hk⟩⟩ := nodeAt_iff.1 hn
    simp only [NodeD.keys, NodeD.vals, NodeD.kids] at a1 b1 c1 ha hbv hk HNN ⊢
    have HA := Lib.hid ha; have HV := Lib.hid hbv; have HK := Lib.hid hk
    obtain ⟨K, hK⟩ : ∃ K, ks.length = K := ⟨_, rfl⟩
    obtain ⟨V, hV⟩ : ∃ V, vs.length = V := ⟨_, rfl⟩
    obtain ⟨C, hC⟩ : ∃ C, kids.length = C := ⟨_, rfl⟩
    rw [hK] at a1 HNN ⊢; rw [hV] at b1 HNN ⊢; rw [hC] at c1 HNN ⊢
    have hla : (K : Int) ≤ 9223372036854775807 := by unfold maxLen at a2; omega
    have hlb : (V : Int) ≤ 9223372036854775807 := by unfold maxLen at b2; omega
    have hlc : (C : Int) ≤ 9223372036854775807 := by unfold maxLen at c2; omega
    have HKL := Lib.hid hK; have HVL := Lib.hid hV; have HCL := Lib.hid hC
    simp only [sizedN, Bool.and_eq_true, decide_eq_true_eq] at hsz
    rw [hK, hV, hC] at hsz
    have HSZ := Lib.hid hsz; have HNB := Lib.hid hN; have HJ := Lib.hid hj
    clear hn ha hbv hk a1 a2 b1 b2 c1 c2 hK hV hC hsz hN hj
    obtain ⟨W1, hW1⟩ : ∃ W1, W.alloc (.cells #[.slice pa K ca, .slice pb V cb, .slice pc C cc] 43) = W1 := ⟨_, rfl⟩
    have HX1 := Lib.hid (show NBox W.heap.size (.slice pa K ca) (.slice pb V cb) (.slice pc C cc) W1 by rw [← hW1]; exact ⟨by simp, by simp, by simp⟩)
    have HG1 := Lib.hid (show W.grownBy W1 none by rw [← hW1]; exact World.grownBy_alloc _ _ _)
    have HJ1 := Lib.hid (show J (addM M W.heap.size) pre W1 from HE.out.keep _ _ _ _ _ HJ.out HG1.out (by rw [← hW1]; exact new_add M W _))
    have HW1 := Lib.hid hW1
    clear hW1
    refine callsIn_of_wp Try.func78 rfl trivial ?_ rfl
    simp only [Try.ntmps78, List.size_toArray, List.length_cons, List.length_nil, Nat.reduceAdd, Nat.reduceSub, Array.replicate_succ, Array.replicate_zero, List.push_toArray, List.append_toArray, List.nil_append, List.cons_append]
    rcases Nat.eq_zero_or_pos C with hz | hz
    · have hz0 : ((C : Int) == 0) = true := by rw [hz]; rfl
      have hVK : V = K := by
        have := HSZ.out.2
        rw [if_pos hz] at this
        simpa using this
      have HP := Lib.hid (show pairsN (.mk ks vs kids) = ks.zip vs by
        have : kids = [] := List.eq_nil_of_length_eq_zero (by rw [HCL.out]; exact hz)
        subst this; simp [pairsN, pairsL])
      clear hz
      subst hVK
      gi_wp2_with fail
      rw [HW1.out]
      gi_loopw [16, 5, 6] (fun i _ _ wr => ∃ k : Nat, k ≤ V ∧ i = .int .i64 k ∧ J (addM M W.heap.size) (pre ++ (ks.zip vs).take k) wr ∧ Keep (addM M W.heap.size) W1 wr) (fun i _ _ _ => V - (intOf i).toNat)
      case atStart => exact ⟨0, Nat.zero_le _, rfl, by rw [List.take_zero, List.append_nil]; exact HJ1.out, Keep.refl _ _⟩
      case round =>
        obtain ⟨k, hk, rfl, hj, hkp⟩ := hrel
        have HJ2 := Lib.hid hj; have HKP := Lib.hid hkp
        clear hj hkp
        by_cases hlt : k < V
        case neg =>
          obtain rfl : k = V := by omega
          have HT := Lib.hid (show (ks.zip vs).take k = ks.zip vs from List.take_of_length_le (by rw [List.length_zip, HKL.out]; omega))
          gi_wp2_with fail
          go_ret
          refine Or.inl ⟨rfl, ⟨addM M W.heap.size, fun b hb => Or.inl hb, ?_⟩, (Keep.grown HG1.out (fun r e => by cases e)).trans (HKP.out.less fun b hb => Or.inl hb)⟩
          rw [HP.out, ← HT.out]; exact HJ2.out
        have hki : (k : Int) < (V : Int) := by omega
        obtain ⟨x, hx⟩ : ∃ x, ks[k]? = some x := ⟨_, List.getElem?_eq_getElem (by rw [HKL.out]; exact hlt)⟩
        obtain ⟨y, hy⟩ : ∃ y, vs[k]? = some y := ⟨_, List.getElem?_eq_getElem (by rw [HVL.out]; exact hlt)⟩
        obtain ⟨_, ga, oa, rfl, hxa⟩ := HA.out k x hx
        obtain ⟨_, gb, ob, rfl, hyb⟩ := HV.out k y hy
        have rx := HKP.out.cell (.inl (mask_cell.1 hxa).1) (HG1.out.cell (mask_cell.1 hxa).2 (by simp))
        have ry := HKP.out.cell (.inl (mask_cell.1 hyb).1) (HG1.out.cell (mask_cell.1 hyb).2 (by simp))
        have x0 := HKP.out.cell (.inr rfl) HX1.out.1
        have x1 := HKP.out.cell (.inr rfl) HX1.out.2.1
        have HZS := Lib.hid (zip_snoc hx hy)
        have hlen : (pre ++ (ks.zip vs).take k) ++ [(x, y)] <+: L := by
          have h1 := HNB.out; rw [HP.out] at h1
          refine List.IsPrefix.trans ?_ h1
          rw [List.append_assoc, ← HZS.out]
          exact (List.prefix_append_right_inj pre).2 (List.take_prefix _ _)
        obtain ⟨fn, tmps, assign, body, hyy, hR⟩ := HE.out.yield (n - 1) _ _ (x, y) wr HJ2.out hlen
        simp only [encP] at hyy
        clear hx hy hxa hyb hlen
        gi_wp2_with fail
        refine ⟨fun h => (by cases h), ?_⟩
        refine hR.mono ?_
        rintro e W3 (⟨rfl, hj3, hk3⟩ | ⟨rfl, hx3⟩)
        · have HJ3 := Lib.hid hj3; have HK3 := Lib.hid (HKP.out.trans hk3)
          clear hj3 hk3 rx ry x0 x1
          gi_wp2_with fail
          go_roundw
          case rel => exact ⟨k + 1, by omega, by go_num, by rw [HZS.out, ← List.append_assoc]; exact HJ3.out, HK3.out⟩
          case measure => simp [intOf]; omega
        · have HX3 := Lib.hid hx3
          clear hx3 rx ry x0 x1
          gi_wp2_with fail
          go_ret
          refine Or.inr ⟨rfl, (ks.zip vs).take (k + 1), ?_, ?_⟩
          · rw [HP.out]; exact List.take_prefix _ _
          · rw [HZS.out, ← List.append_assoc]; exact HX3.out
    · have hz0 : ((C : Int) == 0) = false := by rw [beq_eq_false_iff_ne]; omega
      have HP := Lib.hid (show pairsN (.mk ks vs kids) = pairsL kids by
        simp only [pairsN]; rw [if_neg (by rw [HCL.out]; omega), List.nil_append])
      have HKS := Lib.hid (show ∀ (j : Nat) (u : NodeD), kids[j]? = some u → sizedN u 2 = true by
        have := HSZ.out.2
        rw [if_neg (by omega)] at this
        simp only [Bool.and_eq_true, decide_eq_true_eq] at this
        exact fun j u hu => ((sizedL_iff _ _).1 this.2 j u hu).1)
      clear hz
      gi_wp2_with fail
      rw [HW1.out]
      gi_loopw [35, 8] (fun i _ wr => ∃ (k : Nat) (M' : Nat → Prop), k ≤ C ∧ i = .int .i64 k ∧ (∀ b, addM M W.heap.size b → M' b) ∧ J M' (pre ++ pairsL (kids.take k)) wr ∧ Keep (addM M W.heap.size) W1 wr) (fun i _ _ => C - (intOf i).toNat)
      case atStart => exact ⟨0, _, Nat.zero_le _, rfl, fun b hb => hb, by rw [List.take_zero]; simp only [pairsL, List.append_nil]; exact HJ1.out, Keep.refl _ _⟩
      case round =>
        obtain ⟨k, M', hk, rfl, hmm, hj, hkp⟩ := hrel
        have HJ2 := Lib.hid hj; have HKP := Lib.hid hkp; have HMM := Lib.hid hmm
        clear hj hkp hmm
        by_cases hlt : k < C
        case neg =>
          obtain rfl : k = C := by omega
          have HT := Lib.hid (show kids.take k = kids from List.take_of_length_le (by rw [HCL.out]; exact Nat.le_refl _))
          gi_wp2_with fail
          go_ret
          refine Or.inl ⟨rfl, ⟨M', fun b hb => HMM.out b (Or.inl hb), ?_⟩, (Keep.grown HG1.out (fun r e => by cases e)).trans (HKP.out.less fun b hb => Or.inl hb)⟩
          rw [HP.out, ← HT.out]; exact HJ2.out
        have hki : (k : Int) < (C : Int) := by omega
        obtain ⟨u, hu⟩ : ∃ u, kids[k]? = some u := ⟨_, List.getElem?_eq_getElem (by rw [HCL.out]; exact hlt)⟩
        obtain ⟨g, o, a, b, d, rfl, e1, e2, e3, e4⟩ := HK.out k u hu
        obtain ⟨pu, nu, cu, pv, nv, cv, pw, nw, cw, rfl, rfl, rfl⟩ := node_slices e4
        have kk : Keeps (mask M W) (mask M wr) := mask_keeps fun q v hq hv => ⟨hq, HKP.out.cell (.inl hq) (HG1.out.cell hv (by simp))⟩
        have r1 := (mask_cell.1 (kk _ _ e1)).2; have r2 := (mask_cell.1 (kk _ _ e2)).2; have r3 := (mask_cell.1 (kk _ _ e3)).2
        obtain ⟨W2, hW2⟩ : ∃ W2, wr.alloc (.cells #[.slice pu nu cu, .slice pv nv cv, .slice pw nw cw] 43) = W2 := ⟨_, rfl⟩
        have hg2 : wr.grownBy W2 none := by rw [← hW2]; exact World.grownBy_alloc _ _ _
        have HG2 := Lib.hid hg2
        have HND := Lib.hid (show NodeAt (mask M' W2) u (.slice pu nu cu) (.slice pv nv cv) (.slice pw nw cw) from (e4.keep kk).keep (mask_keeps fun q v hq hv => ⟨HMM.out _ (.inl hq), hg2.cell hv (by simp)⟩))
        have HJ3 := Lib.hid (show J M' (pre ++ pairsL (kids.take k)) W2 from HE.out.keep _ _ _ _ _ HJ2.out hg2 (fun b hb => .inl hb))
        have HUS := Lib.hid (HKS.out k u hu); have HUM := Lib.hid (List.mem_of_getElem? hu); have HSN := Lib.hid (pairsL_snoc hu)
        have HLN := Lib.hid (show (pre ++ pairsL (kids.take k)) ++ pairsN u <+: L by
          have h1 := HNB.out; rw [HP.out] at h1
          refine List.IsPrefix.trans ?_ h1
          rw [List.append_assoc, ← pairsL_snoc hu]
          refine (List.prefix_append_right_inj pre).2 ?_
          have hfull : pairsL kids = pairsL (kids.take (k + 1)) ++ pairsL (kids.drop (k + 1)) := by
            rw [pairsL_flat, pairsL_flat, pairsL_flat, ← List.flatten_append, ← List.map_append, List.take_append_drop]
          rw [hfull]; exact List.prefix_append _ _)
        have HW2 := Lib.hid hW2
        clear hu e1 e2 e3 e4 kk hW2 hg2
        gi_wp2_with fail
        rw [HW2.out]
        refine ⟨trivial, fun h => (by cases h), ?_⟩
        refine (HIH.out u HUM.out (n - 1) _ _ _ 2 M' _ W2 HUS.out HND.out HJ3.out HLN.out).mono ?_
        rintro e W3 (⟨rfl, ⟨M2, hm2, hj3⟩, hk3⟩ | ⟨rfl, q, hq, hx3⟩)
        · have HJ4 := Lib.hid hj3; have HM2 := Lib.hid hm2
          have HK4 := Lib.hid (HKP.out.trans ((Keep.grown HG2.out (fun r e => by cases e)).trans (hk3.less HMM.out)))
          clear hj3 hk3 hm2 r1 r2 r3
          gi_wp2_with fail
          go_roundw
          case rel => exact ⟨k + 1, M2, by omega, by go_num, fun b hb => HM2.out b (HMM.out b hb), by rw [HSN.out, ← List.append_assoc]; exact HJ4.out, HK4.out⟩
          case measure => simp [intOf]; omega
        · have HX4 := Lib.hid hx3; have HQ := Lib.hid hq
          clear hx3 hq r1 r2 r3
          gi_wp2_with fail
          go_ret
          refine Or.inr ⟨rfl, pairsL (kids.take k) ++ q, ?_, ?_⟩
          · rw [HP.out]
            obtain ⟨r, hr⟩ := HQ.out
            have hfull : pairsL kids = pairsL (kids.take (k + 1)) ++ pairsL (kids.drop (k + 1)) := by
              rw [pairsL_flat, pairsL_flat, pairsL_flat, ← List.flatten_append, ← List.map_append, List.take_append_drop]
            rw [hfull, HSN.out, ← hr]
            exact ⟨r ++ pairsL (kids.drop (k + 1)), by simp⟩
          · rw [← List.append_assoc]; exact HX4.out

theorem pairs_any (x y z : Value) (w : World) : Calls Try.prog 66 #[.agg #[x, y, z]] w fun e w' => e = .returned (.func (.func 77) #[] #[.pointer (some ⟨w.heap.size, 0, none⟩)]) ∧ w' = w.alloc (.cells #[x, y, z] 43) := by
  go_enter Try.func66, Try.ntmps66
  go_wp2_with fail
  go_ret
  exact ⟨rfl, rfl⟩
/-- the closure gives a tree's pairs, from front to back -/
theorem pairs_seq (n B : Nat) (M₀ : Nat → Prop) (t : NodeD) (low : Int) (x y z : Value) (w : World) (hs : sizedN t low = true) (hn : NodeAt (mask M₀ w) t x y z) (hx : NBox B x y z w) :
    SeqG n Try.prog 77 #[.pointer (some ⟨B, 0, none⟩)] encP M₀ (pairsN t) w := by
  intro l J Jx W hW hJ1 hJ2 hY h0
  have E : Env l (pairsN t) J Jx := ⟨hJ1, hJ2, fun m M pre x W1 h1 h2 => hY m M pre x W1 h1 h2⟩
  obtain ⟨pu, nu, cu, pv, nv, cv, pw, nw, cw, rfl, rfl, rfl⟩ := node_slices hn
  have hx' := hx.below hW
  have hn' : NodeAt (mask M₀ W) t _ _ _ := hn.keep (mask_keeps fun q v hq hv => ⟨hq, cell_stays hW hv⟩)
  have hp := each_in l _ J Jx E t (n - 1) _ _ _ low M₀ [] W hs hn' h0 (List.prefix_refl _)
  have HP := Lib.hid hp
  obtain ⟨x0, x1, x2⟩ := hx'
  clear hp hn hn' hx hW hJ1 hJ2 hY h0 E hs
  refine callsIn_of_wp Try.func77 rfl trivial ?_ rfl
  simp only [Try.ntmps77, List.size_toArray, List.length_cons, List.length_nil, Nat.reduceAdd, Nat.reduceSub, Array.replicate_succ, Array.replicate_zero, List.push_toArray, List.append_toArray, List.nil_append, List.cons_append]
  gi_wp2_with fail
  refine ⟨trivial, fun h => (by cases h), ?_⟩
  refine HP.out.mono ?_
  rintro e W3 (⟨rfl, ⟨M2, _, hj3⟩, _⟩ | ⟨rfl, q, hq, hx3⟩)
  · have HJ3 := Lib.hid hj3
    clear hj3 x0 x1 x2
    gi_wp2_with fail
    go_end0
    exact ⟨⟨_, rfl⟩, Or.inl ⟨M2, by simpa using HJ3.out⟩⟩
  · have HX3 := Lib.hid hx3; have HQ := Lib.hid hq
    clear hx3 hq x0 x1 x2
    gi_wp2_with fail
    go_end0
    exact ⟨⟨_, rfl⟩, Or.inr ⟨q, HQ.out, by simpa using HX3.out⟩⟩
end Go.Proofs.Ytpcmihgfcaelfaa
namespace Go.Proofs.Ytpcmihgfcaelfaa
open Go.RowKit Go.Shelf
attribute [local go_sem] Oper.semAt_some

def walkP (l : List PairD) (f t : Int) : List PairD := l.filter fun x => inB x f t
def takenP (l : List PairD) (f : Int) : List PairD := l.filter fun x => decide (f ≤ x.1)
/-- what the loop holds of the world between two rounds -/
structure WInv (w : World) (B : Nat) (f t : Int) (M : Nat → Prop) (pre : List PairD) (W : World) : Prop where
  row : ∃ v, Boxed W B 38 v ∧ W.ownsRow (B + 2) 66 2 v (takenP pre f).length (pairRows (takenP pre f)).flatten ∧ ∀ g, v.ownBlock = some g → ¬ M g
  m1 : ¬ M B
  ml : ∀ b, M b → b < W.heap.size
  sz : B + 2 ≤ W.heap.size
  bf : W.cell? ⟨w.heap.size + 1, 0, none⟩ = some (.int .i64 f)
  bt : W.cell? ⟨w.heap.size + 1 + 1, 0, none⟩ = some (.int .i64 t)
  below : Below w.heap.size w W
  lt : ∀ y ∈ pre, y.1 < t
theorem WInv.kept {w : World} {B : Nat} {f t : Int} {M M' : Nat → Prop} {pre : List PairD} {A C : World} {row : Option Nat} (h : WInv w B f t M pre A) (hB : w.heap.size + 2 < B) (hg : A.grownBy C row) (hr : ∀ r, row = some r → B ≤ r ∧ ∃ o, A.heap[r]? = some o ∧ o.isCells = false) (hn : New M M' A C) : WInv w B f t M' pre C := by
  have hrb : ∀ b, b < B → some b ≠ row := fun b hb e => by have := (hr b e.symm).1; omega
  obtain ⟨v, h1, h2, h3⟩ := h.row
  have hrow : ∀ r, row = some r → r ≠ B ∧ v.ownBlock ≠ some r := fun r e => by
    obtain ⟨h4, o, h5, h6⟩ := hr r e
    refine ⟨fun e2 => ?_, fun e2 => ?_⟩
    · subst e2; rw [show A.heap[r]? = _ from h1] at h5; cases h5; cases h6
    · rcases ow_slice h2 with ⟨hv, _, _⟩ | ⟨g, cap, hv⟩
      · rw [hv] at e2; cases e2
      · subst hv
        obtain ⟨cur, h7, _⟩ := own_block h2
        have : g = r := by simpa [Value.ownBlock] using e2
        subst this
        rw [h7] at h5; cases h5; cases h6
  refine ⟨⟨v, h1.kept hg (fun e => (hrow _ e.symm).1 rfl), h2.kept hg ?_, fun g e hm => ?_⟩, fun hm => ?_, fun b hm => ?_, Nat.le_trans h.sz hg.size, hg.cell h.bf (hrb _ (by show w.heap.size + 1 < B; omega)), hg.cell h.bt (hrb _ (by show w.heap.size + 1 + 1 < B; omega)), ?_, h.lt⟩
  · rcases hro : row with _ | r
    · rcases hv : v.ownBlock with _ | g
      · exact .inl rfl
      · exact .inr (by simp)
    · exact .inr (hrow r hro).2
  · rcases hn g hm with hm | hm
    · exact h3 g e hm
    · have := (h2.lt g e).2; omega
  · rcases hn _ hm with hm | hm
    · exact h.m1 hm
    · have := h.sz; omega
  · rcases hn b hm with hm | hm
    · have := h.ml b hm; have := hg.size; omega
    · exact hm.2
  · exact ⟨hg.os.trans h.below.os, hg.tape.trans h.below.tape, hg.output.trans h.below.output, Nat.le_trans h.below.size hg.size, fun k hk => (hg.block k (by have := h.below.size; omega) (hrb k (by omega))).trans (h.below.block k hk)⟩
theorem walk_all {l : List PairD} {f t : Int} (h : ∀ y ∈ l, y.1 < t) : takenP l f = walkP l f t := by
  unfold takenP walkP inB
  apply List.filter_congr; intro x hx
  rw [decide_eq_true (h x hx), Bool.and_true]
theorem walk_stop {l q : List PairD} {x : PairD} {f t : Int} (hr : riseB l = true) (hp : q ++ [x] <+: l) (hq : ∀ y ∈ q, y.1 < t) (hx : t ≤ x.1) : takenP q f = walkP l f t := by
  obtain ⟨r, rfl⟩ := hp
  have hle : ∀ y ∈ [x] ++ r, t ≤ y.1 := by
    have hrise := (riseB_iff _).1 hr
    intro y hy
    obtain ⟨j, hj⟩ := List.mem_iff_getElem?.1 hy
    have : ∀ (j : Nat) y, ([x] ++ r)[j]? = some y → t ≤ y.1 := by
      intro j
      induction j with
      | zero => intro y hy; simp at hy; subst hy; exact hx
      | succ j ih =>
        intro y hy
        have hlt : j < ([x] ++ r).length := by have := (List.getElem?_eq_some_iff.1 hy).1; omega
        obtain ⟨z, hz⟩ : ∃ z, ([x] ++ r)[j]? = some z := ⟨_, List.getElem?_eq_getElem hlt⟩
        have h1 := ih z hz
        have h2 := hrise (q.length + j) z y (by rw [List.append_assoc, List.getElem?_append_right (by omega), show q.length + j - q.length = j by omega]; exact hz) (by rw [List.append_assoc, List.getElem?_append_right (by omega), show q.length + j + 1 - q.length = j + 1 by omega]; exact hy)
        omega
    exact this j y hj
  rw [walk_all hq]
  unfold walkP
  have hnil : ([x] ++ r).filter (fun x => inB x f t) = [] := List.filter_eq_nil_iff.2 (fun y hy => by
    unfold inB; have := hle y hy
    rw [show decide (y.1 < t) = false from decide_eq_false (by omega), Bool.and_false]; simp)
  rw [List.append_assoc, List.filter_append, hnil, List.append_nil]
def walkN (t : NodeD) (f u : Int) : List PairD := if mayN t = true then walkP (pairsN t) f u else []
def WalkPost (t : NodeD) (f u : Int) (w : World) (e : Ending) (w' : World) : Prop := ∃ v', e = .returned v' ∧ w'.ownsRow w.heap.size 66 2 v' (walkN t f u).length (pairRows (walkN t f u)).flatten ∧ Below w.heap.size w w'
theorem box3 (w : World) (x y z p q : Value) : NBox w.heap.size x y z (((w.alloc (.cells #[x, y, z] 43)).alloc (.cells #[p] 3)).alloc (.cells #[q] 3)) ∧
    (((w.alloc (.cells #[x, y, z] 43)).alloc (.cells #[p] 3)).alloc (.cells #[q] 3)).cell? ⟨w.heap.size + 1, 0, none⟩ = some p ∧ (((w.alloc (.cells #[x, y, z] 43)).alloc (.cells #[p] 3)).alloc (.cells #[q] 3)).cell? ⟨w.heap.size + 1 + 1, 0, none⟩ = some q := by
  have h0 : NBox w.heap.size x y z (w.alloc (.cells #[x, y, z] 43)) := ⟨by simp, by simp, by simp⟩
  have h1 := Boxed.new (w.alloc (.cells #[x, y, z] 43)) 3 p
  have h2 := Boxed.new ((w.alloc (.cells #[x, y, z] 43)).alloc (.cells #[p] 3)) 3 q
  rw [World.size_alloc] at h1
  rw [World.size_alloc, World.size_alloc] at h2
  exact ⟨(h0.below ((Below.refl _ _).alloc (Nat.le_refl _) _)).below ((Below.refl _ _).alloc (Nat.le_refl _) _), (h1.alloc _).cell, h2.cell⟩
theorem pair_append3 (W : World) (B n : Nat) (v : Value) (l : List PairD) (x y : Int) (hown : W.ownsRow B 66 2 v n (pairRows l).flatten) (hn : n ≤ 1000000) (hB : B ≤ W.heap.size) :
    ∃ g cap w2, (Builtin.append_ #[38, 38] 38 #[v, .slice (some ⟨W.heap.size, 0, none⟩) 1 1]).run Try.prog (W.alloc (.cells #[.int .i64 x, .int .i64 y] 66)) = .ok (.slice (some ⟨g, 0, none⟩) (n + 1) cap) w2 ∧
      w2.ownsRow B 66 2 (.slice (some ⟨g, 0, none⟩) (n + 1) cap) (n + 1) (pairRows (l ++ [(x, y)])).flatten ∧ (W.alloc (.cells #[.int .i64 x, .int .i64 y] 66)).grownBy w2 v.ownBlock ∧ (v.ownBlock = some g ∨ g = W.heap.size + 1) := by
  obtain ⟨i0, hi0, hz0, hz1, hz2⟩ := info_parts infoP
  obtain ⟨v', w', h1, h2, h3, _, h5⟩ := run_append_own_at (P := Try.prog) (W.alloc (.cells #[.int .i64 x, .int .i64 y] 66)) B 38 38 66 i0 (.agg #[.int .i64 0, .int .i64 0]) 2 16 Try.underlying38 hi0 hz0 hz1 hz2 rfl (by decide) v n _ (hown.alloc _) ⟨W.heap.size, 0, none⟩ 1 1 [.int .i64 x, .int .i64 y] rfl new_pair (by intro u hu; simp only [List.mem_cons, List.not_mem_nil, or_false] at hu; rcases hu with rfl | rfl <;> rfl) (by unfold maxLen; omega) (by omega) (by simp; omega)
  obtain ⟨g, cap, rfl⟩ := ownsRow_succ h2
  refine ⟨g, cap, w', h1, by rw [pairRows_snoc]; exact h2, h3, ?_⟩
  rcases h5 with h5 | h5
  · exact .inl h5.symm
  · right; simpa [Value.ownBlock] using h5
/-- an append onto a boxed row, and its store -/
theorem boxed_push {W w2 : World} {B Bs n g cap : Nat} {T e : TypeId} {k : Nat} {v : Value} {xs ys : List Value} {o : Obj} (M : Nat → Prop) (h1 : Boxed W B T v) (h2 : W.ownsRow Bs e k v n xs) (hBs : B < Bs) (hown : w2.ownsRow Bs e k (.slice (some ⟨g, 0, none⟩) (n + 1) cap) (n + 1) ys)
    (hg : (W.alloc o).grownBy w2 v.ownBlock) (hnew : v.ownBlock = some g ∨ g = W.heap.size + 1) (hm : ¬ M B) (hml : ∀ b, M b → b < W.heap.size) (hmr : ∀ g, v.ownBlock = some g → ¬ M g) (Bk : Nat) :
    Boxed w2 B T v ∧ KeepsFrom Bk W (w2.setCell ⟨B, 0, none⟩ (.slice (some ⟨g, 0, none⟩) (n + 1) cap)) ∧ Keep M W (w2.setCell ⟨B, 0, none⟩ (.slice (some ⟨g, 0, none⟩) (n + 1) cap)) ∧ Boxed (w2.setCell ⟨B, 0, none⟩ (.slice (some ⟨g, 0, none⟩) (n + 1) cap)) B T (.slice (some ⟨g, 0, none⟩) (n + 1) cap) ∧
      (w2.setCell ⟨B, 0, none⟩ (.slice (some ⟨g, 0, none⟩) (n + 1) cap)).ownsRow Bs e k (.slice (some ⟨g, 0, none⟩) (n + 1) cap) (n + 1) ys ∧ ¬ M g ∧ W.heap.size ≤ (w2.setCell ⟨B, 0, none⟩ (.slice (some ⟨g, 0, none⟩) (n + 1) cap)).heap.size ∧
      (∀ b, b < Bs → b ≠ B → b < W.heap.size → (w2.setCell ⟨B, 0, none⟩ (.slice (some ⟨g, 0, none⟩) (n + 1) cap)).heap[b]? = W.heap[b]?) := by
  have hne : some B ≠ v.ownBlock := fun e' => by have := (h2.lt _ e'.symm).1; omega
  have b2 : Boxed w2 B T v := (h1.alloc o).kept hg hne
  have hgB : g ≠ B := by
    have := (hown.lt g rfl).1; omega
  have hsz := hg.size
  have hsz2 := (grownBy_setCell' w2 B (.slice (some ⟨g, 0, none⟩) (n + 1) cap)).size
  rw [World.size_alloc] at hsz
  have hmg : ¬ M g := by
    rcases hnew with h | h
    · exact hmr g h
    · intro h'; have := hml g h'; omega
  have hblk : ∀ b, b < W.heap.size → b ≠ B → some b ≠ v.ownBlock → (w2.setCell ⟨B, 0, none⟩ (.slice (some ⟨g, 0, none⟩) (n + 1) cap)).heap[b]? = W.heap[b]? := fun b hb h3 h4 =>
    ((grownBy_setCell' w2 B _).block b (by omega) (fun e' => h3 (by injection e'))).trans ((hg.block b (by rw [World.size_alloc]; omega) h4).trans ((World.grownBy_alloc W o none).block b hb (by simp)))
  refine ⟨b2, ⟨by omega, fun k' o' _ hk hc => ?_⟩, ⟨by omega, fun b hb hlt => hblk b hlt (fun e' => hm (by rw [← e']; exact hb)) (fun e' => hmr b e'.symm hb)⟩, b2.set _, hown.kept (grownBy_setCell' w2 B _) (.inr (by simpa [Value.ownBlock] using hgB)), hmg, by omega, fun b hb h3 h4 => hblk b h4 h3 (fun e' => by have := (h2.lt _ e'.symm).1; omega)⟩
  rw [hblk k' (Array.getElem?_eq_some_iff.1 hk).1 (fun e' => ?_) (fun e' => ?_)]
  · exact hk
  · rw [e', show W.heap[B]? = _ from h1] at hk; cases hk; cases hc
  · rcases ow_slice h2 with ⟨hv, _, _⟩ | ⟨g', cap', hv⟩
    · rw [hv] at e'; cases e'
    · subst hv
      obtain ⟨cur, h7, _⟩ := own_block h2
      have : k' = g' := by simpa [Value.ownBlock] using e'
      subst this
      rw [h7] at hk; cases hk; cases hc
theorem taken_snoc (pre : List PairD) (x : PairD) (f : Int) : takenP (pre ++ [x]) f = takenP pre f ++ if f ≤ x.1 then [x] else [] := by
  unfold takenP; rw [List.filter_append]
  by_cases h : f ≤ x.1 <;> simp [h]
theorem taken_len (pre : List PairD) (f : Int) : (takenP pre f).length ≤ pre.length := List.length_filter_le _ _
theorem push_walk {w W : World} {B : Nat} {f t : Int} {M : Nat → Prop} {pre : List PairD} {x : PairD} (h : WInv w B f t M pre W) (hB : w.heap.size + 2 < B) (hx : x.1 < t) (hf : f ≤ x.1) (hlen : pre.length ≤ 900000) (Bk : Nat) :
    ∃ v g cap w2, Boxed W B 38 v ∧ (Builtin.append_ #[38, 38] 38 #[v, .slice (some ⟨W.heap.size, 0, none⟩) 1 1]).run Try.prog (W.alloc (.cells #[.int .i64 x.1, .int .i64 x.2] 66)) = .ok (.slice (some ⟨g, 0, none⟩) ((takenP pre f).length + 1) cap) w2 ∧ Boxed w2 B 38 v ∧
      KeepsFrom Bk W (w2.setCell ⟨B, 0, none⟩ (.slice (some ⟨g, 0, none⟩) ((takenP pre f).length + 1) cap)) ∧ Keep M W (w2.setCell ⟨B, 0, none⟩ (.slice (some ⟨g, 0, none⟩) ((takenP pre f).length + 1) cap)) ∧ WInv w B f t M (pre ++ [x]) (w2.setCell ⟨B, 0, none⟩ (.slice (some ⟨g, 0, none⟩) ((takenP pre f).length + 1) cap)) := by
  obtain ⟨v, h1, h2, h3⟩ := h.row
  obtain ⟨g, cap, w2, r1, r2, r3, r4⟩ := pair_append3 W (B + 2) _ v _ x.1 x.2 h2 (by have := taken_len pre f; omega) h.sz
  obtain ⟨b1, b2, b3, b4, b5, b6, b7, b8⟩ := boxed_push M h1 h2 (by omega) r2 r3 r4 h.m1 h.ml h3 Bk
  have hs := taken_snoc pre x f
  rw [if_pos hf] at hs
  have hc : ∀ (k : Nat) (u : Value), k < B → W.cell? ⟨k, 0, none⟩ = some u → (w2.setCell ⟨B, 0, none⟩ (.slice (some ⟨g, 0, none⟩) ((takenP pre f).length + 1) cap)).cell? ⟨k, 0, none⟩ = some u := fun k u hk hu =>
    (World.cell?_of_block (a := ⟨k, 0, none⟩) (b8 k (by omega) (by omega) (by have := World.block_lt_of_cell? _ _ hu; exact this))).trans hu
  refine ⟨v, g, cap, w2, h1, r1, b1, b2, b3, ⟨⟨_, b4, ?_, fun g' e => ?_⟩, h.m1, fun b hb => by have := h.ml b hb; omega, by have := h.sz; omega, hc _ _ (by omega) h.bf, hc _ _ (by omega) h.bt, ?_, fun y hy => ?_⟩⟩
  · rw [hs, List.length_append]; exact b5
  · have : g = g' := by simpa [Value.ownBlock] using e
    subst this; exact b6
  · have hq : w2.grownBy (w2.setCell ⟨B, 0, none⟩ (.slice (some ⟨g, 0, none⟩) ((takenP pre f).length + 1) cap)) (some B) := grownBy_setCell' _ _ _
    exact ⟨hq.os.trans (r3.os.trans h.below.os), hq.tape.trans (r3.tape.trans h.below.tape), hq.output.trans (r3.output.trans h.below.output), Nat.le_trans h.below.size b7, fun k hk => (b8 k (by omega) (by omega) (by have := h.below.size; omega)).trans (h.below.block k hk)⟩
  · rw [List.mem_append, List.mem_singleton] at hy
    rcases hy with hy | rfl
    · exact h.lt y hy
    · exact hx
set_option maxRecDepth 100000 in
set_option maxHeartbeats 4000000 in
theorem walk_any (t : NodeD) (x y z : Value) (f u : Int) (w : World) (hn : NodeAt w t x y z) (hlen : (pairsN t).length ≤ 900000) : Calls Try.prog 46 #[.agg #[x, y, z], .int .i64 f, .int .i64 u] w (WalkPost t f u w) := by
  obtain ⟨pu, nu, cu, pv, nv, cv, pw, nw, cw, rfl, rfl, rfl⟩ := node_slices hn
  have HN := Lib.hid hn; have HLEN := Lib.hid hlen; clear hn hlen
  rw [← callsIn_wide (n := 6)]
  refine callsIn_of_wp_marks Try.func46 rfl trivial ?_ rfl
  simp only [Try.ntmps46, List.size_toArray, List.length_cons, List.length_nil, Nat.reduceAdd, Nat.reduceSub, Array.replicate_succ, Array.replicate_zero, List.push_toArray, List.append_toArray, List.nil_append, List.cons_append]
  obtain ⟨WA, hWA⟩ : ∃ W, ((w.alloc (.cells #[.slice pu nu cu, .slice pv nv cv, .slice pw nw cw] 43)).alloc (.cells #[.int .i64 f] 3)).alloc (.cells #[.int .i64 u] 3) = W := ⟨_, rfl⟩
  have HX0 := Lib.hid (show NBox w.heap.size (.slice pu nu cu) (.slice pv nv cv) (.slice pw nw cw) WA by rw [← hWA]; exact (box3 w _ _ _ _ _).1)
  have HF0 := Lib.hid (show WA.cell? ⟨w.heap.size + 1, 0, none⟩ = some (.int .i64 f) ∧ WA.cell? ⟨w.heap.size + 1 + 1, 0, none⟩ = some (.int .i64 u) by rw [← hWA]; exact (box3 w _ _ _ _ _).2)
  have HB0 := Lib.hid (show Below w.heap.size w WA by rw [← hWA]; exact (((Below.refl _ _).alloc (Nat.le_refl _) _).alloc (by simp) _).alloc (by simp; omega) _)
  have HSA := Lib.hid (show WA.heap.size = w.heap.size + 3 by rw [← hWA]; simp)
  have HWA := Lib.hid hWA
  clear hWA
  gi_wp2_with fail
  rw [HWA.out]
  refine ⟨trivial, ?_⟩
  refine (callsIn_wide.2 (may_any t _ _ _ _ (HN.out.keep (keeps_below HB0.out)))).mono ?_
  rintro e w1 ⟨rfl, hb⟩
  have HX1 := Lib.hid (HX0.out.below hb); have HB1 := Lib.hid (btrans HB0.out hb); have HS1 := Lib.hid (show w.heap.size + 3 ≤ w1.heap.size by have := hb.size; have := HSA.out; omega)
  have HF1 := Lib.hid (show w1.cell? ⟨w.heap.size + 1, 0, none⟩ = some (.int .i64 f) ∧ w1.cell? ⟨w.heap.size + 1 + 1, 0, none⟩ = some (.int .i64 u) from ⟨cell_stays hb HF0.out.1, cell_stays hb HF0.out.2⟩)
  clear hb HX0 HF0 HB0 HSA HWA
  obtain ⟨x0, x1, x2⟩ := HX1.out
  have hlx := World.block_lt_of_cell? _ _ x0
  cases hm : mayN t with
  | false =>
    have HW := Lib.hid (show walkN t f u = [] by unfold walkN; rw [hm, if_neg (by simp)])
    clear hm
    gi_wp2_with fail
    refine ⟨_, results_tmp rfl _ _ _, _, rfl, ?_, HB1.out⟩
    rw [HW.out]; exact World.ownsRow_nil _ _ _ _
  | true =>
    have HM := Lib.hid (show deepN t 40 ≠ 0 ∧ sizedN t 0 = true ∧ riseB (pairsN t) = true by unfold mayN at hm; simpa [and_assoc] using hm)
    have HW := Lib.hid (show walkN t f u = walkP (pairsN t) f u by unfold walkN; rw [hm, if_pos rfl])
    clear hm
    gi_wp2_with fail
    refine ⟨trivial, ?_⟩
    refine (callsIn_wide.2 (pairs_any _ _ _ _)).mono ?_
    rintro e w' ⟨rfl, rfl⟩
    gi_wp2_with fail
    obtain ⟨W0, hW0⟩ : ∃ W, (w1.alloc (.cells #[.slice none 0 0] 38)).alloc (.cells #[.slice pu nu cu, .slice pv nv cv, .slice pw nw cw] 43) = W := ⟨_, rfl⟩
    have hb0 : Below w1.heap.size w1 W0 := by rw [← hW0]; exact ((Below.refl _ _).alloc (Nat.le_refl _) _).alloc (by simp) _
    have hs0 : W0.heap.size = w1.heap.size + 2 := by rw [← hW0]; simp
    have hbx : Boxed W0 w1.heap.size 38 (.slice none 0 0) := by rw [← hW0]; exact (Boxed.new w1 _ _).alloc _
    have hnb : NBox (w1.heap.size + 1) (.slice pu nu cu) (.slice pv nv cv) (.slice pw nw cw) W0 := by
      rw [← hW0]
      have : (w1.alloc (.cells #[.slice none 0 0] 38)).heap.size = w1.heap.size + 1 := by simp
      rw [← this]; exact ⟨by simp, by simp, by simp⟩
    have HS0 := Lib.hid hs0; have HBX := Lib.hid hbx; have HNB := Lib.hid hnb; have HBW := Lib.hid (btrans HB1.out hb0); have HCF := Lib.hid (show W0.cell? ⟨w.heap.size + 1, 0, none⟩ = some (.int .i64 f) ∧ W0.cell? ⟨w.heap.size + 1 + 1, 0, none⟩ = some (.int .i64 u) from ⟨cell_stays hb0 HF1.out.1, cell_stays hb0 HF1.out.2⟩)
    have HW0 := Lib.hid hW0
    have hsn : w1.heap.size + 1 = (w1.alloc (.cells #[.slice none 0 0] 38)).heap.size := by simp
    have HSN := Lib.hid hsn
    clear hb0 hs0 hbx hnb hW0 hsn x0 x1 x2 hlx
    rw [HW0.out]
    have hseq := pairs_seq 5 (w1.heap.size + 1) (fun b => b < w.heap.size ∨ b = w1.heap.size + 1) t 0 _ _ _ W0 HM.out.2.1 (HN.out.keep (fun q v hv => mask_cell.2 ⟨.inl (World.block_lt_of_cell? _ _ hv), cell_stays HBW.out hv⟩)) HNB.out
    have hBB : w.heap.size + 2 < w1.heap.size := by have := HS1.out; omega
    refine wp_range_g (n := 6) (gf := 77) (lb := #[.pointer (some ⟨w1.heap.size + 1, 0, none⟩)]) (by omega) rfl (enters_of Try.func77 (by kernel_rfl) rfl) hseq ?hM (fun _ => rfl) (WInv w w1.heap.size f u)
      (fun c pre W => c = .exit 0 ∧ ∃ q x, pre = q ++ [x] ∧ u ≤ x.1 ∧ ∃ M, WInv w w1.heap.size f u M q W) ?i1 ?i2 ?x1 ?x2 ?start
      (fun _ x a' W => ∃ Bx, w1.heap.size + 2 ≤ Bx ∧ W.heap[Bx]? = some (.cells #[.int .i64 x.1, .int .i64 x.2] 66 (0, 0)) ∧ a' = { tmps := #[.agg #[.slice pu nu cu, .slice pv nv cv, .slice pw nw cw], .int .i64 f, .int .i64 u, .pointer (some ⟨w.heap.size, 0, none⟩), .pointer (some ⟨w.heap.size + 1, 0, none⟩), .pointer (some ⟨w.heap.size + 1 + 1, 0, none⟩), .slice none 0 0, .pointer (some ⟨w1.heap.size, 0, none⟩), .pointer (some ⟨Bx, 0, none⟩), .agg #[.slice pu nu cu, .slice pv nv cv, .slice pw nw cw], .bool true, .bool false, .agg #[.slice pu nu cu, .slice pv nv cv, .slice pw nw cw], .func (.func 77) #[] #[.pointer (some ⟨w1.heap.size + 1, 0, none⟩)], .agg #[.int .i64 x.1, .int .i64 x.2], undef, undef, undef, undef, undef, undef, undef, undef, undef, undef, undef, undef, undef], defers := [] }) ?ax ?assign ?body ?done ?stop
    case hM =>
      intro b hb
      rcases hb with hb | hb
      · have := HBW.out.size; omega
      · have := HS0.out; omega
    case i1 => exact fun M M' s A B h hg hn => h.kept hBB hg (fun r e => by cases e) hn
    case i2 => exact fun M s A B r o h hg hr ho hc => h.kept hBB hg (fun r' e => by cases e; exact ⟨by have := HS0.out; omega, o, ho, hc⟩) (fun b hb => .inl hb)
    case x1 =>
      rintro c s A B ⟨rfl, q, x, h1, h2, M, h3⟩ hg
      exact ⟨rfl, q, x, h1, h2, M, h3.kept hBB hg (fun r e => by cases e) (fun b hb => .inl hb)⟩
    case x2 =>
      rintro c s A B r o ⟨rfl, q, x, h1, h2, M, h3⟩ hg hr ho hc
      exact ⟨rfl, q, x, h1, h2, M, h3.kept hBB hg (fun r' e => by cases e; exact ⟨by have := HS0.out; omega, o, ho, hc⟩) (fun b hb => .inl hb)⟩
    case start =>
      refine ⟨⟨_, HBX.out, World.ownsRow_nil _ _ _ _, fun g e => by cases e⟩, ?_, ?_, by have := HS0.out; omega, HCF.out.1, HCF.out.2, HBW.out, fun y hy => by simp at hy⟩
      · rintro (h | h)
        · omega
        · omega
      · rintro b (h | h)
        · have := HBW.out.size; omega
        · have := HS0.out; omega
    case ax =>
      rintro M x a' A B r o ⟨Bx, h1, h2, rfl⟩ hg hr ho hc
      refine ⟨Bx, h1, (hg.block Bx (Array.getElem?_eq_some_iff.1 h2).1 (fun e => ?_)).trans h2, rfl⟩
      injection e with e; subst e
      rw [h2] at ho; cases ho; cases hc
    case assign =>
      intro l M pre x W K hi hK
      have hsz := hi.sz
      dsimp only [encP]
      gi_wp2
      exact hK _ _ (World.grownBy_alloc _ _ _) ⟨W.heap.size, hsz, World.alloc_heap_new _ _, rfl⟩
    case body =>
      rintro l M pre x a' W hi ⟨Bx, hBx, hbx, rfl⟩ hlen
      have HI := Lib.hid hi
      have c0 : W.cell? ⟨Bx, 0, none⟩ = some (.int .i64 x.1) := by simp [World.cell?, hbx]
      have c1 : W.cell? ⟨Bx, 1, none⟩ = some (.int .i64 x.2) := by simp [World.cell?, hbx]
      have cf := hi.bf; have ct := hi.bt
      have hpl : pre.length ≤ 900000 := by
        have h1 := HLEN.out; have h2 := hlen.length_le; rw [List.length_append] at h2; omega
      clear hi hbx hseq
      by_cases hu : u ≤ x.1
      · have HU := Lib.hid hu
        gi_wp2
        exact ⟨KeepsFrom.refl _ _, rfl, pre, x, rfl, HU.out, M, HI.out⟩
      · have hu2 : ¬ u ≤ x.1 := hu
        by_cases hf : f ≤ x.1
        · obtain ⟨v, g, cap, w2, k1, k2, k3, k4, k5, k6⟩ := push_walk HI.out hBB (by omega) hf hpl W0.heap.size
          have HR := Lib.hid k2; have HK4 := Lib.hid k4; have HK5 := Lib.hid k5; have HK6 := Lib.hid k6
          have hv := k1.cell; have hv2 := k3.cell; have hv3 := k3.frozen
          clear k1 k2 k3 k4 k5 k6
          gi_wp2_with (gi_at_builtin; refine wpListIn_append_run _ rfl _ _ _ rfl _ _ rfl rfl _ _ HR.out ?_)
          exact ⟨HK4.out, HK5.out, HK6.out⟩
        · have HW2 := Lib.hid (show WInv w w1.heap.size f u M (pre ++ [x]) W from
            { row := by
                obtain ⟨v, h1, h2, h3⟩ := HI.out.row
                have ht := taken_snoc pre x f
                rw [if_neg hf, List.append_nil] at ht
                exact ⟨v, h1, by rw [ht]; exact h2, h3⟩
              m1 := HI.out.m1, ml := HI.out.ml, sz := HI.out.sz, bf := HI.out.bf, bt := HI.out.bt, below := HI.out.below
              lt := fun y hy => by
                rw [List.mem_append, List.mem_singleton] at hy
                rcases hy with hy | rfl
                · exact HI.out.lt y hy
                · omega })
          gi_wp2
          exact ⟨KeepsFrom.refl _ _, Keep.refl _ _, HW2.out⟩
    case done =>
      rintro D M W hD hi hK
      have HI := Lib.hid hi
      obtain ⟨v, h1, h2, h3⟩ := hi.row
      have hc := h1.cell
      have HR := Lib.hid (show takenP (pairsN t) f = walkN t f u by rw [HW.out]; exact walk_all HI.out.lt)
      have H2 := Lib.hid h2
      clear h1 h2 h3 hi hseq
      gi_wp2
      refine ⟨by simp, .inl ⟨_, _, rfl, run_takeDeferred hK, ?_⟩⟩
      refine ⟨_, results_tmp rfl _ _ _, _, rfl, ?_, ?_⟩
      · rw [← HR.out]; exact ow_mono (by omega) (ownsRow_putObj H2.out _ hK rfl)
      · exact HI.out.below.trans (belowK_b (w := w) (Nat.le_refl _) W D _ _ (by have := HBW.out.size; omega) hK rfl rfl)
    case stop =>
      rintro D c pre W hD hp ⟨rfl, q, x, rfl, hu, M, hi⟩ hK
      have HI := Lib.hid hi
      obtain ⟨v, h1, h2, h3⟩ := hi.row
      have hc := h1.cell
      have HR := Lib.hid (show takenP q f = walkN t f u by rw [HW.out]; exact walk_stop HM.out.2.2 hp HI.out.lt hu)
      have H2 := Lib.hid h2
      clear h1 h2 h3 hi hseq hp hu
      gi_wp2
      refine ⟨by simp, .inl ⟨_, _, rfl, run_takeDeferred hK, ?_⟩⟩
      refine ⟨_, results_tmp rfl _ _ _, _, rfl, ?_, ?_⟩
      · rw [← HR.out]; exact ow_mono (by omega) (ownsRow_putObj H2.out _ hK rfl)
      · exact HI.out.below.trans (belowK_b (w := w) (Nat.le_refl _) W D _ _ (by have := HBW.out.size; omega) hK rfl rfl)
end Go.Proofs.Ytpcmihgfcaelfaa
namespace Go.Proofs.Ytpcmihgfcaelfaa
open Go.RowKit

theorem OwnVols.mono {w : World} {B B' : Nat} {v : Value} {l : List VoD} (h : B ≤ B') (ho : OwnVols w B' v l) : OwnVols w B v l := by
  obtain ⟨xs, h1, hown, hx⟩ := ho
  exact ⟨xs, h1, ow_mono h hown, hx⟩
theorem OwnVols.block {w : World} {B : Nat} {v : Value} {l : List VoD} (h : OwnVols w B v l) : ∀ k, v.ownBlock = some k → B ≤ k := by
  obtain ⟨xs, h1, hown, hx⟩ := h
  exact fun k hk => (hown.lt k hk).1
/-- volumes with one more, or another one in its place -/
def putV : List VoD → VoD → Bool → List VoD
  | [], v, laid => if laid then [] else [v]
  | x :: l, v, laid => (if laid = false ∧ v.id ≤ x.id then [v] else []) ++ (if x.id = v.id then [] else [x]) ++ putV l v (laid || decide (v.id ≤ x.id))
theorem putV_cons (x : VoD) (l : List VoD) (v : VoD) (laid : Bool) : putV (x :: l) v laid = (if laid = false ∧ v.id ≤ x.id then [v] else []) ++ (if x.id = v.id then [] else [x]) ++ putV l v (laid || decide (v.id ≤ x.id)) := by simp only [putV]
theorem putV_len : ∀ (l : List VoD) (v : VoD) (laid : Bool), (putV l v laid).length ≤ l.length + (if laid then 0 else 1)
  | [], v, laid => by cases laid <;> simp [putV]
  | x :: l, v, laid => by
    have := putV_len l v (laid || decide (v.id ≤ x.id))
    simp only [putV, List.length_append, List.length_cons]
    cases laid
    · by_cases h : v.id ≤ x.id
      · by_cases e : x.id = v.id
        · simp [e] at this ⊢; omega
        · simp [h, e] at this ⊢; omega
      · by_cases e : x.id = v.id
        · omega
        · simp [h, e] at this ⊢; omega
    · by_cases e : x.id = v.id
      · simp [e] at this ⊢; omega
      · simp [e] at this ⊢; omega
noncomputable def withV (l : List VoD) (v : VoD) : List VoD := if mayVB l = true ∧ rightN v = true then (if 64 < (putV l v false).length then [] else putV l v false) else []
theorem mayVB_len {l : List VoD} (h : mayVB l = true) : l.length ≤ 64 := (mayVB_iff.1 h).2.2

set_option maxRecDepth 100000 in
set_option maxHeartbeats 8000000 in
theorem rwith_any (x : List VoD) (d : VoD) (v1 v2 : Value) (w : World) (h1 : VolsAt w v1 x) (h2 : VolV w v2 d) (l1 : SmallTrees x) (l2 : SmallTree d.map) : Calls Try.prog 22 #[v1, v2] w fun e w' => ∃ v', e = .returned v' ∧ OwnVols w' w.heap.size v' (withV x d) ∧ Below w.heap.size w w' := by
  obtain ⟨a, b, c, rfl, i1, i2, hn⟩ := h2
  obtain ⟨pa, na, ca, pb, nb, cb, pc, nc, cc, rfl, rfl, rfl⟩ := node_slices hn
  have hb0 : Below w.heap.size w (w.alloc (.cells #[.int .i64 d.id, .int .i64 d.size, .slice pa na ca, .slice pb nb cb, .slice pc nc cc] 45)) := (Below.refl _ _).alloc (Nat.le_refl _) _
  have HB0 := Lib.hid hb0; have HND := Lib.hid hn; have HI := Lib.hid (And.intro i1 i2); have HL1 := Lib.hid l1; have HL2 := Lib.hid l2; have HV1 := Lib.hid h1
  clear hn i1 i2 l1 l2 hb0
  obtain ⟨p, cp, rfl, a1, a2, ha⟩ := h1
  have HA := Lib.hid ha
  obtain ⟨N, hN⟩ : ∃ N, x.length = N := ⟨_, rfl⟩
  rw [hN] at a1 HV1; rw [hN]
  have hlc : (N : Int) ≤ 9223372036854775807 := by unfold maxLen at a2; omega
  have HN := Lib.hid hN
  clear ha hN a1 a2
  obtain ⟨Q, hQ⟩ : ∃ Q, d.id = Q := ⟨_, rfl⟩
  have HQE := Lib.hid hQ
  rw [hQ] at HB0 ⊢
  clear hQ
  go_enter Try.func22, Try.ntmps22
  go_wp2_with fail
  refine (rmay18_any x _ _ (HV1.out.keep (keeps_below HB0.out)) HL1.out).mono ?_
  rintro e w1 ⟨rfl, hb⟩
  have HB1 := Lib.hid (btrans HB0.out hb)
  have HX1 := Lib.hid (show VBox w.heap.size (.int .i64 Q) (.int .i64 d.size) (.slice pa na ca) (.slice pb nb cb) (.slice pc nc cc) w1 from VBox.below ⟨by simp, by simp, by simp, by simp, by simp⟩ hb)
  clear hb
  obtain ⟨q0, q1, q2, q3, q4⟩ := HX1.out
  have hlx := World.block_lt_of_cell? _ _ q0
  cases hm : mayVB x with
  | false =>
    have HF := Lib.hid (show withV x d = [] by unfold withV; rw [hm, if_neg (by simp)])
    clear hm
    go_wp2_with fail
    go_ret
    exact ⟨_, rfl, by rw [HF.out]; exact OwnVols.none, HB1.out⟩
  | true =>
  have HM := Lib.hid hm
  have hN64 : N ≤ 64 := by rw [← HN.out]; exact mayVB_len hm
  clear hm
  go_wp2_with fail
  refine (rright_any d _ _ ⟨_, _, _, by rw [HQE.out], HI.out.1, HI.out.2, HND.out.keep (keeps_below HB1.out)⟩ HL2.out).mono ?_
  rintro e w2 ⟨rfl, hb⟩
  have HB2 := Lib.hid (btrans HB1.out hb)
  have HX2 := Lib.hid (HX1.out.below hb)
  clear hb q0 q1 q2 q3 q4 hlx
  obtain ⟨q0, q1, q2, q3, q4⟩ := HX2.out
  have hlx := World.block_lt_of_cell? _ _ q0
  cases hr : rightN d with
  | false =>
    have HF := Lib.hid (show withV x d = [] by unfold withV; rw [hr, if_neg (by simp)])
    clear hr
    go_wp2_with fail
    go_ret
    exact ⟨_, rfl, by rw [HF.out]; exact OwnVols.none, HB2.out⟩
  | true =>
  have HW := Lib.hid (show withV x d = if 64 < (putV x d false).length then [] else putV x d false by unfold withV; rw [HM.out, hr, if_pos ⟨rfl, rfl⟩])
  clear hr
  go_wp2_with fail
  go_loopw [5, 6, 7] (fun v lb i wr => ∃ (k : Nat) (laid : Bool) (done : List VoD) (vv : Value), vv = v ∧ k ≤ N ∧ i = .int .i64 k ∧ lb = .bool laid ∧ putV x d false = done ++ putV (x.drop k) d laid ∧ done.length ≤ N + 1 ∧ OwnVols wr (w.heap.size + 1) v done ∧ VBox w.heap.size (.int .i64 Q) (.int .i64 d.size) (.slice pa na ca) (.slice pb nb cb) (.slice pc nc cc) wr ∧ Below w.heap.size w wr) (fun _ _ i _ => N - (intOf i).toNat)
  case atStart =>
    exact ⟨0, false, [], _, rfl, Nat.zero_le _, rfl, rfl, by rw [List.drop_zero]; rfl, by simp, OwnVols.nil hlx, HX2.out.below ((Below.refl _ _).alloc (Nat.le_refl _) _), btrans HB2.out ((Below.refl _ _).alloc (Nat.le_refl _) _)⟩
  case round =>
    clear q0 q1 q2 q3 q4 hlx
    obtain ⟨k, laid, done, vv, hvv, hk, rfl, rfl, hput, hdl, hown, hbx, hb⟩ := hrel
    subst hvv
    have HP := Lib.hid hput; have HB := Lib.hid hb; have HO := Lib.hid hown; have HX := Lib.hid hbx
    obtain ⟨q0, q1, q2, q3, q4⟩ := hbx
    have hlx := World.block_lt_of_cell? _ _ q0
    clear hput hb hown
    by_cases hlt : k < N
    case neg =>
      obtain rfl : k = N := by omega
      have HD := Lib.hid (show x.drop k = [] from List.drop_of_length_le (by rw [HN.out]; omega))
      cases laid with
      | true =>
        have HF := Lib.hid (show putV x d false = done by rw [HP.out, HD.out]; simp [putV])
        have HSR := Lib.hid HO.out.at
        obtain ⟨p2, c2, hv2, _, _, _⟩ := HO.out.at
        subst hv2
        obtain ⟨L, hL⟩ : ∃ L, done.length = L := ⟨_, rfl⟩
        rw [hL] at HO hdl ⊢
        have HLE := Lib.hid hL
        clear hL HSR
        by_cases h64 : 64 < L
        · have HG := Lib.hid (show withV x d = [] by rw [HW.out, HF.out, HLE.out, if_pos h64])
          have h64' : (64 : Int) < (L : Int) := by omega
          clear h64
          go_wp2_with fail
          go_ret
          exact ⟨_, rfl, by rw [HG.out]; exact OwnVols.none, HB.out⟩
        · have HG := Lib.hid (show withV x d = done by rw [HW.out, HF.out, HLE.out, if_neg h64])
          have h64' : ¬ (64 : Int) < (L : Int) := by omega
          clear h64
          go_wp2_with fail
          go_ret
          exact ⟨_, rfl, by rw [HG.out]; exact HO.out.mono (by omega), HB.out⟩
      | false =>
        have HF := Lib.hid (show putV x d false = done ++ [d] by rw [HP.out, HD.out]; simp [putV])
        obtain ⟨g1, c1, w3, hrun, hown2, hb2⟩ := vol_append wr (w.heap.size + 1) done.length vv done d _ _ _ HO.out rfl (by omega) hlx HI.out.1 HI.out.2 (HND.out.keep (mask_old HB.out (fun k e => by have := HO.out.block k e; omega)))
        rw [HQE.out] at hrun
        have HR := Lib.hid hrun; have HO2 := Lib.hid hown2; have HB2' := Lib.hid (HB.out.trans (hb2.mono (by omega)))
        obtain ⟨L, hL⟩ : ∃ L, done.length = L := ⟨_, rfl⟩
        rw [hL] at HR HO2 hdl
        have HLE := Lib.hid hL
        clear hrun hown2 hb2 hL
        by_cases h64 : 64 < L + 1
        · have HG := Lib.hid (show withV x d = [] by rw [HW.out, HF.out, List.length_append, HLE.out, if_pos (by simpa using h64)])
          have h64' : (64 : Int) < (L : Int) + 1 := by omega
          clear h64
          go_wp2_with (at_builtin; refine Lib.wpList_append_run _ rfl _ _ _ _ rfl _ _ rfl rfl _ _ HR.out ?_)
          go_ret
          exact ⟨_, rfl, by rw [HG.out]; exact OwnVols.none, HB2'.out⟩
        · have HG := Lib.hid (show withV x d = done ++ [d] by rw [HW.out, HF.out, List.length_append, HLE.out, if_neg (by simpa using h64)])
          have h64' : ¬ (64 : Int) < (L : Int) + 1 := by omega
          clear h64
          go_wp2_with (at_builtin; refine Lib.wpList_append_run _ rfl _ _ _ _ rfl _ _ rfl rfl _ _ HR.out ?_)
          go_ret
          exact ⟨_, rfl, by rw [HG.out]; exact HO2.out.mono (by omega), HB2'.out⟩
    have hki : (k : Int) < (N : Int) := by omega
    obtain ⟨s, hs⟩ : ∃ s, x[k]? = some s := ⟨_, List.getElem?_eq_getElem (by rw [HN.out]; omega)⟩
    obtain ⟨i1, i2, g, o, a', b', c', rfl, e0, e1, e2, e3, e4, e5⟩ := HA.out k s hs
    obtain ⟨pa', na', ca', pb', nb', cb', pc', nc', cc', rfl, rfl, rfl⟩ := node_slices e5
    have HV0 := Lib.hid (show V5 g (o + k * 5) s.id s.size (.slice pa' na' ca') (.slice pb' nb' cb') (.slice pc' nc' cc') w from ⟨e0, e1, e2, e3, e4⟩)
    have HV := Lib.hid (HV0.out.below HB.out)
    have HSI := Lib.hid (And.intro i1 i2); have HSN := Lib.hid e5
    obtain ⟨r0, r1, r2, r3, r4⟩ := HV.out
    have hd : x.drop k = s :: x.drop (k + 1) := by
      obtain ⟨hk2, hx⟩ := List.getElem?_eq_some_iff.1 hs
      rw [List.drop_eq_getElem_cons hk2, hx]
    have hput2 := HP.out
    rw [hd, putV_cons, HQE.out] at hput2
    have HPL := Lib.hid (show done.length + ((if laid = false ∧ Q ≤ s.id then [d] else []) ++ (if s.id = Q then [] else [s]) : List VoD).length ≤ N + 1 by
      have h1 := putV_len x d false
      have h2 := HN.out
      rw [hput2] at h1
      simp only [List.length_append, Bool.false_eq_true, if_false] at h1 ⊢
      omega)
    have HP2 := Lib.hid hput2
    clear hs hd hput2 e0 e1 e2 e3 e4 e5 i1 i2
    obtain ⟨SI, hSI⟩ : ∃ S, s.id = S := ⟨_, rfl⟩
    have HSE := Lib.hid hSI
    rw [hSI] at HP2 HPL HV0 HV r0
    clear hSI
    by_cases hins : laid = false ∧ Q ≤ SI
    · obtain ⟨rfl, hq⟩ := hins
      have hq2 : decide (Q ≤ SI) = true := decide_eq_true hq
      have HF1 := Lib.hid (show SI = Q → putV x d false = (done ++ [d]) ++ putV (x.drop (k + 1)) d true ∧ (done ++ [d]).length ≤ N + 1 from fun he => ⟨by
        rw [HP2.out, if_pos ⟨rfl, hq⟩, if_pos he, hq2]; simp, by have := HPL.out; rw [if_pos ⟨rfl, hq⟩, if_pos he] at this; simpa using this⟩)
      have HF2 := Lib.hid (show ¬ SI = Q → putV x d false = ((done ++ [d]) ++ [s]) ++ putV (x.drop (k + 1)) d true ∧ ((done ++ [d]) ++ [s]).length ≤ N + 1 from fun he => ⟨by
        rw [HP2.out, if_pos ⟨rfl, hq⟩, if_neg he, hq2]; simp, by have := HPL.out; rw [if_pos ⟨rfl, hq⟩, if_neg he] at this; simp at this ⊢; omega⟩)
      go_wp2_with fail
      go_quiet (fail)
      obtain ⟨W2, hW2⟩ : ∃ W, wr.drewN nq = W := ⟨_, rfl⟩
      have hbd : Below wr.heap.size wr W2 := by rw [← hW2]; exact below_drewN' (Below.refl _ _) _
      rw [hW2]
      have HO2 := Lib.hid (HO.out.below hbd); have HB2' := Lib.hid (btrans HB.out hbd); have HX2' := Lib.hid (HX.out.below hbd); have HV2 := Lib.hid (HV.out.below hbd)
      have hlx2 : w.heap.size < W2.heap.size := World.block_lt_of_cell? _ _ HX2'.out.1
      clear hW2 hbd q0 q1 q2 q3 q4 r0 r1 r2 r3 r4 hlx
      have HQ := Lib.hid hq; clear hq
      obtain ⟨q0, q1, q2, q3, q4⟩ := HX2'.out
      obtain ⟨g1, c1, w3, hrun, hown2, hb2⟩ := vol_append W2 (w.heap.size + 1) done.length vv done d _ _ _ HO2.out rfl (by omega) hlx2 HI.out.1 HI.out.2 (HND.out.keep (mask_old HB2'.out (fun k e => by have := HO2.out.block k e; omega)))
      rw [HQE.out] at hrun
      have HR := Lib.hid hrun; have HO3 := Lib.hid hown2; have HB3 := Lib.hid (HB2'.out.trans (hb2.mono (by omega)))
      have HX3 := Lib.hid (show VBox w.heap.size (.int .i64 Q) (.int .i64 d.size) (.slice pa na ca) (.slice pb nb cb) (.slice pc nc cc) w3 from ⟨(hb2.cell (p := ⟨w.heap.size, 0, none⟩) (by simp)).trans q0, (hb2.cell (p := ⟨w.heap.size, 1, none⟩) (by simp)).trans q1, (hb2.cell (p := ⟨w.heap.size, 2, none⟩) (by simp)).trans q2, (hb2.cell (p := ⟨w.heap.size, 3, none⟩) (by simp)).trans q3, (hb2.cell (p := ⟨w.heap.size, 4, none⟩) (by simp)).trans q4⟩)
      clear hrun hown2 hb2
      go_wp2_with (at_builtin; refine Lib.wpList_append_run _ rfl _ _ _ _ rfl _ _ rfl rfl _ _ HR.out ?_)
      clear q0 q1 q2 q3 q4
      have HV3 := Lib.hid (HV0.out.below HB3.out)
      obtain ⟨q0, q1, q2, q3, q4⟩ := HX3.out
      obtain ⟨r0, r1, r2, r3, r4⟩ := HV3.out
      have hlx := World.block_lt_of_cell? _ _ q0
      by_cases he : SI = Q
      · have heb : (SI != Q) = false := by rw [he]; simp
        have HF := Lib.hid (HF1.out he).1; have HL2 := Lib.hid (HF1.out he).2
        clear he
        go_quiet (fail)
        go_wp2_with fail
        go_roundw
        case rel =>
          refine ⟨k + 1, true, done ++ [d], _, rfl, by omega, by go_num, rfl, HF.out, HL2.out, HO3.out.below (below_drewN' (Below.refl _ _) _), HX3.out.below (below_drewN' (Below.refl _ _) _), below_drewN' HB3.out _⟩
        case measure => simp [intOf]; omega
      · have heb : (SI != Q) = true := by rw [bne_iff_ne]; exact he
        have HF := Lib.hid (HF2.out he).1; have HL2 := Lib.hid (HF2.out he).2
        clear he
        go_quiet (fail)
        obtain ⟨W4, hW4⟩ : ∃ W, w3.drewN nq = W := ⟨_, rfl⟩
        have hbd : Below w3.heap.size w3 W4 := by rw [← hW4]; exact below_drewN' (Below.refl _ _) _
        rw [hW4]
        have HO4 := Lib.hid (HO3.out.below hbd); have HB4 := Lib.hid (btrans HB3.out hbd); have HX4 := Lib.hid (HX3.out.below hbd); have HV4 := Lib.hid (HV3.out.below hbd)
        have hlx4 : w.heap.size < W4.heap.size := World.block_lt_of_cell? _ _ HX4.out.1
        clear hW4 hbd q0 q1 q2 q3 q4 r0 r1 r2 r3 r4 hlx
        obtain ⟨q0, q1, q2, q3, q4⟩ := HX4.out
        obtain ⟨r0, r1, r2, r3, r4⟩ := HV4.out
        have hdl2 := HL2.out
        rw [List.length_append] at hdl2
        obtain ⟨g2, c2, w5, hrun, hown2, hb2⟩ := vol_append W4 (w.heap.size + 1) (done.length + 1) _ (done ++ [d]) s _ _ _ HO4.out (by simp) (by omega) hlx4 HSI.out.1 HSI.out.2 (HSN.out.keep (mask_old HB4.out (fun k e => by have := HO4.out.block k e; omega)))
        rw [HSE.out] at hrun
        have HR5 := Lib.hid hrun; have HO5 := Lib.hid hown2; have HB5 := Lib.hid (HB4.out.trans (hb2.mono (by omega)))
        have HX5 := Lib.hid (show VBox w.heap.size (.int .i64 Q) (.int .i64 d.size) (.slice pa na ca) (.slice pb nb cb) (.slice pc nc cc) w5 from ⟨(hb2.cell (p := ⟨w.heap.size, 0, none⟩) (by simp)).trans q0, (hb2.cell (p := ⟨w.heap.size, 1, none⟩) (by simp)).trans q1, (hb2.cell (p := ⟨w.heap.size, 2, none⟩) (by simp)).trans q2, (hb2.cell (p := ⟨w.heap.size, 3, none⟩) (by simp)).trans q3, (hb2.cell (p := ⟨w.heap.size, 4, none⟩) (by simp)).trans q4⟩)
        clear hrun hown2 hb2 hdl2
        go_wp2_with (at_builtin; refine Lib.wpList_append_run _ rfl _ _ _ _ rfl _ _ rfl rfl _ _ HR5.out ?_)
        go_roundw
        case rel =>
          exact ⟨k + 1, true, (done ++ [d]) ++ [s], _, rfl, by omega, by go_num, rfl, HF.out, HL2.out, HO5.out, HX5.out, HB5.out⟩
        case measure => simp [intOf]; omega
    · have HIN := Lib.hid hins
      have hc : laid = true ∨ (laid = false ∧ decide (Q ≤ SI) = false) := by
        cases laid
        · exact .inr ⟨rfl, decide_eq_false fun h => hins ⟨rfl, h⟩⟩
        · exact .inl rfl
      have HL := Lib.hid (show (laid || decide (Q ≤ SI)) = laid by rcases hc with rfl | ⟨rfl, h⟩ <;> simp [*])
      have HF1 := Lib.hid (show SI = Q → putV x d false = done ++ putV (x.drop (k + 1)) d laid from fun he => by
        rw [HP2.out, if_neg HIN.out, if_pos he, HL.out]; simp)
      have HF2 := Lib.hid (show ¬ SI = Q → putV x d false = (done ++ [s]) ++ putV (x.drop (k + 1)) d laid ∧ (done ++ [s]).length ≤ N + 1 from fun he => ⟨by
        rw [HP2.out, if_neg HIN.out, if_neg he, HL.out]; simp, by have := HPL.out; rw [if_neg HIN.out, if_neg he] at this; simpa using this⟩)
      clear hins
      rcases hc with rfl | ⟨rfl, hq⟩
      all_goals
        go_wp2_with fail
        go_quiet (fail)
        obtain ⟨W2, hW2⟩ : ∃ W, wr.drewN nq = W := ⟨_, rfl⟩
        have hbd : Below wr.heap.size wr W2 := by rw [← hW2]; exact below_drewN' (Below.refl _ _) _
        rw [hW2]
        have HO2 := Lib.hid (HO.out.below hbd); have HB2' := Lib.hid (btrans HB.out hbd); have HX2' := Lib.hid (HX.out.below hbd); have HV2 := Lib.hid (HV.out.below hbd)
        have hlx2 : w.heap.size < W2.heap.size := World.block_lt_of_cell? _ _ HX2'.out.1
        clear hW2 hbd q0 q1 q2 q3 q4 r0 r1 r2 r3 r4 hlx
        obtain ⟨q0, q1, q2, q3, q4⟩ := HX2'.out
        obtain ⟨r0, r1, r2, r3, r4⟩ := HV2.out
        go_wp2_with fail
        by_cases he : SI = Q
        · have heb : (SI != Q) = false := by rw [he]; simp
          have HF := Lib.hid (HF1.out he)
          clear he
          go_quiet (fail)
          go_wp2_with fail
          go_roundw
          case rel =>
            exact ⟨k + 1, _, done, _, rfl, by omega, by go_num, rfl, HF.out, hdl, HO2.out.below (below_drewN' (Below.refl _ _) _), HX2'.out.below (below_drewN' (Below.refl _ _) _), below_drewN' HB2'.out _⟩
          case measure => simp [intOf]; omega
        · have heb : (SI != Q) = true := by rw [bne_iff_ne]; exact he
          have HF := Lib.hid (HF2.out he).1; have HL2 := Lib.hid (HF2.out he).2
          clear he
          go_quiet (fail)
          obtain ⟨W4, hW4⟩ : ∃ W, W2.drewN nq = W := ⟨_, rfl⟩
          have hbd : Below W2.heap.size W2 W4 := by rw [← hW4]; exact below_drewN' (Below.refl _ _) _
          rw [hW4]
          have HO4 := Lib.hid (HO2.out.below hbd); have HB4 := Lib.hid (btrans HB2'.out hbd); have HX4 := Lib.hid (HX2'.out.below hbd); have HV4 := Lib.hid (HV2.out.below hbd)
          have hlx4 : w.heap.size < W4.heap.size := World.block_lt_of_cell? _ _ HX4.out.1
          clear hW4 hbd q0 q1 q2 q3 q4 r0 r1 r2 r3 r4 hlx2
          obtain ⟨q0, q1, q2, q3, q4⟩ := HX4.out
          obtain ⟨r0, r1, r2, r3, r4⟩ := HV4.out
          obtain ⟨g2, c2, w5, hrun, hown2, hb2⟩ := vol_append W4 (w.heap.size + 1) done.length _ done s _ _ _ HO4.out rfl (by omega) hlx4 HSI.out.1 HSI.out.2 (HSN.out.keep (mask_old HB4.out (fun k e => by have := HO4.out.block k e; omega)))
          rw [HSE.out] at hrun
          have HR5 := Lib.hid hrun; have HO5 := Lib.hid hown2; have HB5 := Lib.hid (HB4.out.trans (hb2.mono (by omega)))
          have HX5 := Lib.hid (show VBox w.heap.size (.int .i64 Q) (.int .i64 d.size) (.slice pa na ca) (.slice pb nb cb) (.slice pc nc cc) w5 from ⟨(hb2.cell (p := ⟨w.heap.size, 0, none⟩) (by simp)).trans q0, (hb2.cell (p := ⟨w.heap.size, 1, none⟩) (by simp)).trans q1, (hb2.cell (p := ⟨w.heap.size, 2, none⟩) (by simp)).trans q2, (hb2.cell (p := ⟨w.heap.size, 3, none⟩) (by simp)).trans q3, (hb2.cell (p := ⟨w.heap.size, 4, none⟩) (by simp)).trans q4⟩)
          clear hrun hown2 hb2
          go_wp2_with (at_builtin; refine Lib.wpList_append_run _ rfl _ _ _ _ rfl _ _ rfl rfl _ _ HR5.out ?_)
          go_roundw
          case rel =>
            exact ⟨k + 1, _, done ++ [s], _, rfl, by omega, by go_num, rfl, HF.out, HL2.out, HO5.out, HX5.out, HB5.out⟩
          case measure => simp [intOf]; omega
end Go.Proofs.Ytpcmihgfcaelfaa
namespace Go.Proofs.Ytpcmihgfcaelfaa
open Go.RowKit

/-- one more of each of these values -/
def tallyP : List PairD → List PairD → List PairD
  | out, [] => out
  | out, p :: l => tallyP (putP out p.2 ((getP out p.2).1 + 1) false) l
def tallyV : List PairD → List VoD → List PairD
  | out, [] => out
  | out, d :: l => tallyV (tallyP out (pairsN d.map)) l
noncomputable def countsV (l : List VoD) : List PairD := if mayVB l = true then tallyV [] l else []
theorem tallyP_snoc (l : List PairD) (p : PairD) : ∀ out, tallyP out (l ++ [p]) = putP (tallyP out l) p.2 ((getP (tallyP out l) p.2).1 + 1) false := by
  induction l with
  | nil => intro out; simp only [List.nil_append, tallyP]
  | cons a l ih => intro out; simp only [List.cons_append, tallyP]; exact ih _
theorem tallyV_snoc (l : List VoD) (d : VoD) : ∀ out, tallyV out (l ++ [d]) = tallyP (tallyV out l) (pairsN d.map) := by
  induction l with
  | nil => intro out; simp only [List.nil_append, tallyV]
  | cons a l ih => intro out; simp only [List.cons_append, tallyV]; exact ih _
/-- counts stay between 0 and this -/
def CBd (m : Nat) (l : List PairD) : Prop := l.length ≤ m ∧ ∀ x ∈ l, 0 ≤ x.2 ∧ x.2 ≤ m
theorem getP_bd {m : Nat} {l : List PairD} (h : CBd m l) (k : Int) : 0 ≤ (getP l k).1 ∧ (getP l k).1 ≤ m := by
  unfold getP
  split
  · rename_i x hx; exact h.2 x (List.mem_of_find?_eq_some hx)
  · simp
theorem putP_mem : ∀ (l : List PairD) (k v : Int) (laid : Bool) (x : PairD), x ∈ putP l k v laid → x ∈ l ∨ x = (k, v)
  | [], k, v, laid, x, h => by cases laid <;> simp [putP] at h; exact .inr h
  | a :: l, k, v, laid, x, h => by
    simp only [putP, List.mem_append] at h
    rcases h with (h | h) | h
    · split at h
      · simp at h; exact .inr h
      · simp at h
    · split at h
      · simp at h
      · simp at h; exact .inl (by rw [h]; simp)
    · rcases putP_mem l k v _ x h with h | h
      · exact .inl (by simp [h])
      · exact .inr h
theorem putP_bd {m : Nat} {l : List PairD} (h : CBd m l) (k : Int) : CBd (m + 1) (putP l k ((getP l k).1 + 1) false) := by
  refine ⟨by have := putP_len l k ((getP l k).1 + 1) false; have := h.1; simp at *; omega, fun x hx => ?_⟩
  rcases putP_mem _ _ _ _ _ hx with hx | rfl
  · have := h.2 x hx; omega
  · have := getP_bd h k; simp only; omega
theorem tallyP_bd (l : List PairD) : ∀ {m : Nat} {out : List PairD}, CBd m out → CBd (m + l.length) (tallyP out l) := by
  induction l with
  | nil => intro m out h; exact h
  | cons a l ih => intro m out h; have := ih (putP_bd h a.2); simp only [tallyP, List.length_cons]; rw [show m + (l.length + 1) = m + 1 + l.length by omega]; exact this
end Go.Proofs.Ytpcmihgfcaelfaa
namespace Go.Proofs.Ytpcmihgfcaelfaa
open Go.RowKit

theorem take_snocV {α : Type} {l : List α} {k : Nat} {s : α} (h : l[k]? = some s) : l.take (k + 1) = l.take k ++ [s] := by
  obtain ⟨hk2, hx⟩ := List.getElem?_eq_some_iff.1 h
  rw [List.take_succ_eq_append_getElem hk2, hx]
theorem tallyV_bd : ∀ (l : List VoD) {m : Nat} {out : List PairD}, SmallTrees l → CBd m out → CBd (m + l.length * 2000) (tallyV out l)
  | [], m, out, _, h => by simpa [tallyV] using h
  | d :: l, m, out, hl, h => by
    have h1 := tallyP_bd (pairsN d.map) h
    have h2 := hl d (by simp); unfold SmallTree at h2
    have h3 : CBd (m + 2000) (tallyP out (pairsN d.map)) := ⟨by have := h1.1; omega, fun x hx => by have := h1.2 x hx; omega⟩
    have := tallyV_bd l (fun u hu => hl u (by simp [hu])) h3
    simp only [tallyV, List.length_cons]
    rw [show m + (l.length + 1) * 2000 = m + 2000 + l.length * 2000 by omega]; exact this
theorem getP_of {l : List PairD} {k : Int} : getP l k = ((getP l k).1, (getP l k).2) := rfl
set_option maxRecDepth 100000 in
set_option maxHeartbeats 8000000 in
theorem rcounts_any (x : List VoD) (v1 : Value) (w : World) (h1 : VolsAt w v1 x) (l1 : SmallTrees x) : Calls Try.prog 40 #[v1] w fun e w' => ∃ v', e = .returned v' ∧ PairsAt w' v' (countsV x) ∧ Below w.heap.size w w' := by
  have HL1 := Lib.hid l1; have HV1 := Lib.hid h1
  clear l1
  obtain ⟨p, cp, rfl, a1, a2, ha⟩ := h1
  have HA := Lib.hid ha
  obtain ⟨N, hN⟩ : ∃ N, x.length = N := ⟨_, rfl⟩
  rw [hN] at a1 HV1; rw [hN]
  have hlc : (N : Int) ≤ 9223372036854775807 := by unfold maxLen at a2; omega
  have HN := Lib.hid hN
  clear ha hN a1 a2
  go_enter Try.func40, Try.ntmps40
  go_wp2_with fail
  go_loopw [3, 4, 5, 6, 7, 8] (fun v i _ _ _ _ wr => ∃ (k : Nat) (vv : Value), vv = v ∧ k ≤ N ∧ (0 < k → mayVB x = true) ∧ i = .int .i64 k ∧ PairsAt wr v (tallyV [] (x.take k)) ∧ Below w.heap.size w wr) (fun _ i _ _ _ _ _ => N - (intOf i).toNat)
  case atStart => exact ⟨0, _, rfl, Nat.zero_le _, fun h => by omega, rfl, by rw [List.take_zero]; exact ⟨_, 0, rfl, Nat.le_refl _, by unfold maxLen; omega, fun i x h => by simp [tallyV] at h⟩, (Below.refl _ _).alloc (Nat.le_refl _) _⟩
  case round =>
    obtain ⟨k, vv, hvv, hk, hmay, rfl, hown, hb⟩ := hrel
    subst hvv
    have HB := Lib.hid hb; have HO := Lib.hid hown; have HMY := Lib.hid hmay
    clear hb hown hmay
    by_cases hlt : k < N
    case neg =>
      obtain rfl : k = N := by omega
      have HF := Lib.hid (show countsV x = tallyV [] (x.take k) by
        rw [List.take_of_length_le (by rw [HN.out]; exact Nat.le_refl _)]
        unfold countsV
        by_cases h0 : 0 < k
        · rw [if_pos (HMY.out h0)]
        · have : x = [] := List.eq_nil_of_length_eq_zero (by rw [HN.out]; omega)
          subst this; split <;> rfl)
      go_wp2_with fail
      go_ret
      exact ⟨_, rfl, by rw [HF.out]; exact HO.out, HB.out⟩
    have hki : (k : Int) < (N : Int) := by omega
    obtain ⟨s, hs⟩ : ∃ s, x[k]? = some s := ⟨_, List.getElem?_eq_getElem (by rw [HN.out]; omega)⟩
    obtain ⟨i1, i2, g, o, a', b', c', rfl, e0, e1, e2, e3, e4, e5⟩ := HA.out k s hs
    have HV0 := Lib.hid (show V5 g (o + k * 5) s.id s.size a' b' c' w from ⟨e0, e1, e2, e3, e4⟩)
    have HSN := Lib.hid e5; have HS := Lib.hid hs; have HSM := Lib.hid (HL1.out s (List.mem_of_getElem? hs))
    clear e0 e1 e2 e3 e4 e5 i1 i2 hs
    go_wp2_with fail
    refine (rmay18_any x _ _ (HV1.out.keep (keeps_below HB.out)) HL1.out).mono ?_
    rintro e w1 ⟨rfl, hb⟩
    have HB1 := Lib.hid (btrans HB.out hb); have HO1 := Lib.hid (HO.out.keep (keeps_below hb))
    clear hb
    cases hm : mayVB x with
    | false =>
      have HF := Lib.hid (show countsV x = tallyV [] (x.take k) by
        unfold countsV; rw [hm, if_neg (by simp)]
        by_cases h0 : 0 < k
        · have := HMY.out h0; rw [hm] at this; exact absurd this (by simp)
        · obtain rfl : k = 0 := by omega
          rfl)
      clear hm
      go_wp2_with fail
      go_ret
      exact ⟨_, rfl, by rw [HF.out]; exact HO1.out, HB1.out⟩
    | true =>
      have HM := Lib.hid hm
      have hN64 : N ≤ 64 := by rw [← HN.out]; exact mayVB_len hm
      clear hm
      have HV := Lib.hid (HV0.out.below HB1.out)
      obtain ⟨r0, r1, r2, r3, r4⟩ := HV.out
      go_wp2_with fail
      refine (rpairs_any s.map _ _ _ _ (HSN.out.keep (keeps_below HB1.out)) (by have := HSM.out; unfold SmallTree at this; omega)).mono ?_
      rintro e w2 ⟨v2, rfl, hrow, hb⟩
      have HB2 := Lib.hid (btrans HB1.out hb); have HO2 := Lib.hid (HO1.out.keep (keeps_below hb))
      have HPB := Lib.hid (pairsN_bd _ HSN.out)
      obtain ⟨pp, cpp, rfl, _, hcm, hcs⟩ := pairs_of_row hrow
      have HCS := Lib.hid hcs
      have HT := Lib.hid (show tallyV [] (x.take (k + 1)) = tallyP (tallyV [] (x.take k)) (pairsN s.map) by rw [take_snocV HS.out, tallyV_snoc])
      have HBD := Lib.hid (show CBd (64 * 2000) (tallyV [] (x.take k)) by
        have h1 := tallyV_bd (x.take k) (m := 0) (out := []) (fun d hd => HL1.out d (List.mem_of_mem_take hd)) ⟨by simp, fun x h => by simp at h⟩
        have h2 : (x.take k).length ≤ 64 := by rw [List.length_take]; omega
        exact ⟨by have := h1.1; omega, fun x hx => by have := h1.2 x hx; omega⟩)
      have hM := HSM.out; unfold SmallTree at hM
      obtain ⟨l, hl⟩ : ∃ l, pairsN s.map = l := ⟨_, rfl⟩
      rw [hl] at HCS HT HPB hM ⊢
      obtain ⟨out0, hout⟩ : ∃ o, tallyV [] (x.take k) = o := ⟨_, rfl⟩
      rw [hout] at HO2 HT HBD
      obtain ⟨M, hMl⟩ : ∃ M, l.length = M := ⟨_, rfl⟩
      rw [hMl] at hM ⊢
      have HML := Lib.hid hMl
      clear hb hrow hcs hl hMl hout hcm r0 r1 r2 r3 r4
      go_wp2_with fail
      go_loopw [3, 6, 7, 8] (fun v i _ _ wr2 => ∃ (j : Nat) (vv2 : Value), vv2 = v ∧ j ≤ M ∧ i = .int .i64 j ∧ PairsAt wr2 v (tallyP out0 (l.take j)) ∧ Below w.heap.size w wr2 ∧ Below w2.heap.size w2 wr2) (fun _ i _ _ _ => M - (intOf i).toNat)
      case atStart => exact ⟨0, _, rfl, Nat.zero_le _, rfl, by rw [List.take_zero]; exact HO2.out, HB2.out, Below.refl _ _⟩
      case round =>
        obtain ⟨j, vv2, hvv2, hj, rfl, hown, hb, hb2⟩ := hrel
        subst hvv2
        have HBI := Lib.hid hb; have HOI := Lib.hid hown; have HBJ := Lib.hid hb2
        clear hb hown hb2
        by_cases hlt2 : j < M
        case neg =>
          obtain rfl : j = M := by omega
          have HF := Lib.hid (show tallyV [] (x.take (k + 1)) = tallyP out0 (l.take j) by rw [HT.out, List.take_of_length_le (by rw [HML.out]; exact Nat.le_refl _)])
          go_wp2_with fail
          go_roundw
          case rel => exact ⟨k + 1, _, rfl, by omega, fun _ => HM.out, by go_num, by rw [HF.out]; exact HOI.out, HBI.out⟩
          case measure => simp [intOf]; omega
        have hji : (j : Int) < (M : Int) := by omega
        obtain ⟨y, hy⟩ : ∃ y, l[j]? = some y := ⟨_, List.getElem?_eq_getElem (by rw [HML.out]; omega)⟩
        obtain ⟨g', o', rfl, y1, y2⟩ := HCS.out j y hy
        have HY2 := Lib.hid y2
        have HF := Lib.hid (show tallyP out0 (l.take (j + 1)) = putP (tallyP out0 (l.take j)) y.2 ((getP (tallyP out0 (l.take j)) y.2).1 + 1) false by rw [take_snocV hy, tallyP_snoc])
        have HBP := Lib.hid (show CBd (64 * 2000 + 2000) (tallyP out0 (l.take j)) by
          have h1 := tallyP_bd (l.take j) HBD.out
          have h2 : (l.take j).length ≤ 2000 := by rw [List.length_take]; omega
          exact ⟨by have := h1.1; omega, fun x hx => by have := h1.2 x hx; omega⟩)
        have r2 := cell_stays HBJ.out y2
        obtain ⟨T, hT⟩ : ∃ T, tallyP out0 (l.take j) = T := ⟨_, rfl⟩
        rw [hT] at HF HBP HOI
        clear hy y1 y2 hT
        obtain ⟨yk, yv⟩ := y
        simp only at r2 HF HY2
        have hgb := getP_bd HBP.out yv
        obtain ⟨⟨G, GB⟩, hG⟩ : ∃ G, getP T yv = G := ⟨_, rfl⟩
        rw [hG] at HF hgb
        simp only at HF hgb
        have HGE := Lib.hid hG
        clear hG
        go_wp2_with fail
        refine (rget16_any T yv _ _ HOI.out).mono ?_
        rintro e w3 ⟨rfl, rfl⟩
        rw [HGE.out]
        simp only
        go_wp2_with fail
        refine (rput16_any T yv (G + 1) _ _ HOI.out (by have := HBP.out.1; omega)).mono ?_
        rintro e w4 ⟨v4, rfl, hrow, hb⟩
        have HOJ := Lib.hid (pairs_of_row hrow); have HBK := Lib.hid (btrans HBI.out hb); have HBL := Lib.hid (btrans HBJ.out hb)
        clear hrow hb
        go_wp2_with fail
        go_roundw
        case rel => exact ⟨j + 1, _, rfl, by omega, by go_num, by rw [HF.out]; exact HOJ.out, HBK.out, HBL.out⟩
        case measure => simp [intOf]; omega
end Go.Proofs.Ytpcmihgfcaelfaa
