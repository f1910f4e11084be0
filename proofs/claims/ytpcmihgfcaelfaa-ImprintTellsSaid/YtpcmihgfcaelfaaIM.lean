/- slices.SortFunc at pairs, by the keys' difference. · A range over a map of counts: what has been gathered; plain. · The walk of volume.Counts. · Tables of uses: how they lie in memory, and which may be, in plain words. · The walks of the reference's Same of a table and of tables. · The walks of slots.May, and of the reference's May of a table and of tables. -/
import Derived.Test.YtpcmihgfcaelfaaIL
import Derived.Test.YtpcmihgfcaelfaaSortShelf
import Derived.Sort.LoopGhostIn
import Derived.Test.YtpcmihgfcaelfaaID
import Derived.Test.YtpcmihgfcaelfaaIH
namespace Go.Proofs.Ytpcmihgfcaelfaa
open Go.RowKit Go.Shelf

def encS (x : PairD) : List Value := [.int .i64 (x.1 % 1000000000000), .int .i64 x.2]
def cmpS (x y : PairD) : Int := x.1 % 1000000000000 - y.1 % 1000000000000
theorem swoS : Go.Sort.SWO (Go.Proofs.ltOf cmpS) := by
  refine ⟨fun x => ?_, fun x y z h1 h2 => ?_, fun x y z h1 h2 => ?_⟩ <;> unfold Go.Proofs.ltOf cmpS at * <;> simp only [decide_eq_true_eq, decide_eq_false_iff_not] at * <;> omega
set_option maxRecDepth 100000 in
theorem keydiff_any (a b c e : Int) (ha : 0 ≤ a ∧ a < 1000000000000) (hc : 0 ≤ c ∧ c < 1000000000000) (w : World) : Calls Try.prog 59 #[.agg #[.int .i64 a, .int .i64 b], .agg #[.int .i64 c, .int .i64 e]] w fun en w' =>
    en = .returned (.int .i64 (a - c)) ∧ w' = (w.alloc (.cells #[.int .i64 a, .int .i64 b] 66)).alloc (.cells #[.int .i64 c, .int .i64 e] 66) := by
  have hw : wrap64 (a - c) = a - c := by unfold wrap64; omega
  go_enter Try.func59, Try.ntmps59
  go_wp2_with fail
  go_ret
  exact ⟨rfl, rfl⟩
theorem grow_two (w : World) (a b : Obj) : (w.alloc a).alloc b = Go.Sort.grow w #[a, b] := by
  rw [Go.Sort.alloc_eq_grow, Go.Sort.alloc_eq_grow, Go.Sort.grow_grow]; rfl
theorem sortWorld_grown (w : World) (g n : Nat) (d : Array PairD) (os : Array Obj) : w.grownBy (Go.Proofs.sortWorldK encS 2 w g 0 n d os) (some g) := by
  refine ⟨rfl, rfl, rfl, Go.Proofs.size_sortWorldK_c encS 2 w g 0 n d os, fun k hk hne => ?_⟩
  unfold Go.Proofs.sortWorldK
  rw [Go.Sort.heap_grow_old _ _ (by rw [Go.Sort.size_putRowK]; exact hk)]
  unfold Go.Sort.putRowK Go.Sort.putRow Go.Sort.mapBlock
  show (w.heap.modify g _)[k]? = _
  rw [Array.getElem?_modify]
  rw [if_neg (fun e => hne (by rw [e]))]
theorem sort_any (g cap B : Nat) (l : List PairD) (w : World) (hown : w.ownsRow B 66 2 (.slice (some ⟨g, 0, none⟩) l.length cap) l.length (pairRows l).flatten) (hb : ∀ x ∈ l, 0 ≤ x.1 ∧ x.1 < 1000000000000) (hl : l.length ≤ 1000000) :
    Calls Try.prog 58 #[.slice (some ⟨g, 0, none⟩) l.length cap, .func (.func 59) #[] #[]] w fun e w' => e = .returned (.tuple #[]) ∧
      ∃ l' : List PairD, l'.Perm l ∧ l'.Pairwise (fun a b => a.1 ≤ b.1) ∧ PairsAt w' (.slice (some ⟨g, 0, none⟩) l'.length cap) l' ∧ w.grownBy w' (some g) := by
  have hg := (hown.lt g rfl).2
  obtain ⟨cur, hblk, _, hc1, hc2, _⟩ := own_block hown
  have hH : Go.Sort.HoldsK encS 2 w g 0 l.toArray := by
    intro j hj
    rw [Go.Sort.size_flatK] at hj
    have hj' : j < l.length * 2 := by simpa using hj
    have hl2 := pairs_len l
    refine ⟨?_, frozen_no hblk _⟩
    rw [Nat.zero_add, ow_cell hown j (by omega), Go.Sort.get_flatK _ _ _ _ hj]
    have hi : j / 2 < l.length := by omega
    have e1 : l.toArray[j / 2]! = l[j / 2] := by rw [getElem!_pos _ _ (by simpa using hi)]; simp
    rw [e1]
    obtain ⟨p1, p2⟩ := pairs_cell l (j / 2) _ (List.getElem?_eq_getElem hi)
    obtain ⟨m1, m2⟩ := hb l[j / 2] (List.getElem_mem hi)
    unfold encS
    rw [Int.emod_eq_of_lt m1 m2]
    rcases Nat.mod_two_eq_zero_or_one j with h | h
    · have e2 : j / 2 * 2 = j := by omega
      rw [h]
      rw [e2, List.getElem?_eq_getElem (by omega)] at p1
      simpa using p1
    · have e2 : j / 2 * 2 + 1 = j := by omega
      rw [h]
      rw [e2, List.getElem?_eq_getElem (by omega)] at p2
      simpa using p2
  have hcmp : Go.Proofs.CmpLays Try.prog 59 #[] encS 2 cmpS g 0 l.toArray.size w := by
    intro m os dk _ x y
    have hx := Int.emod_nonneg x.1 (show (1000000000000 : Int) ≠ 0 by decide)
    have hx2 := Int.emod_lt_of_pos x.1 (show (0 : Int) < 1000000000000 by decide)
    have hy := Int.emod_nonneg y.1 (show (1000000000000 : Int) ≠ 0 by decide)
    have hy2 := Int.emod_lt_of_pos y.1 (show (0 : Int) < 1000000000000 by decide)
    refine (keydiff_any _ x.2 _ y.2 ⟨hx, hx2⟩ ⟨hy, hy2⟩ _).mono ?_
    rintro e w' ⟨rfl, rfl⟩
    exact ⟨rfl, 0, _, grow_two _ _ _⟩
  have hsz : l.toArray.size = l.length := by simp
  have hmain := Go.Proofs.AnyQ.slices_SortFunc Try.sortL 2 Try.isAgg66 Try.sizeOf66 encS (fun _ => rfl) (fun x v hv => by unfold encS at hv; simp only [List.mem_cons, List.not_mem_nil, or_false] at hv; rcases hv with rfl | rfl <;> rfl)
    cmpS swoS 59 #[] g 0 cap l.toArray w (enters_of Try.func59 (by kernel_rfl) rfl) hcmp hH hg (by rw [hsz]; omega)
  rw [hsz] at hmain
  refine hmain.mono ?_
  rintro e w' ⟨rfl, d', n, os, hp, hs, rfl⟩
  obtain ⟨hp1, _, hp3⟩ := hp
  have hp1' : d'.size = l.length := by rw [hp1]; simp
  have hperm : d'.toList.Perm l := by
    have e1 : d'.extract 0 l.length = d' := by rw [← hp1']; simp
    have e2 : l.toArray.extract 0 l.length = l.toArray := by simp
    rw [e1, e2] at hp3
    simpa using hp3
  have hmem : ∀ x ∈ d'.toList, 0 ≤ x.1 ∧ x.1 < 1000000000000 := fun x hx => hb x (hperm.mem_iff.1 hx)
  have hat : ∀ i (hi : i < d'.size), d'[i]! = d'[i] := fun i hi => getElem!_pos d' i hi
  refine ⟨rfl, d'.toList, hperm, ?_, ⟨some ⟨g, 0, none⟩, cap, rfl, ?_, hc2, fun i x hx => ⟨g, 0, rfl, ?_⟩⟩, sortWorld_grown w g n d' os⟩
  · rw [List.pairwise_iff_getElem]
    intro i j hi hj hij
    simp only [Array.length_toList] at hi hj
    have h1 := hs i j (Nat.zero_le _) hij (by omega)
    rw [hat i hi, hat j hj] at h1
    unfold Go.Proofs.ltOf cmpS at h1
    simp only [decide_eq_false_iff_not] at h1
    have m1 := hmem d'[i] (by simp)
    have m2 := hmem d'[j] (by simp)
    rw [Int.emod_eq_of_lt m1.1 m1.2, Int.emod_eq_of_lt m2.1 m2.2] at h1
    simp only [Array.getElem_toList]; omega
  · simp only [Array.length_toList]; omega
  · have hh := Go.Proofs.holdsK_sortWorldK_c encS 2 w g 0 l.toArray d' n os hH hg (by rw [hp1'] ; simp)
    obtain ⟨hi, hxe⟩ := List.getElem?_eq_some_iff.1 hx
    have hi' : i < d'.size := by simpa using hi
    have hxe' : d'[i] = x := by rw [← hxe]; simp
    have h0 := (hh.cell (i := i) (c := 0) hi' (by omega)).1
    have h1 := (hh.cell (i := i) (c := 1) hi' (by omega)).1
    rw [hat i hi', hxe'] at h0 h1
    have m := hmem x (List.mem_of_getElem? hx)
    have he : encS x = [.int .i64 x.1, .int .i64 x.2] := by unfold encS; rw [Int.emod_eq_of_lt m.1 m.2]
    rw [he] at h0 h1
    exact ⟨by simpa using h0, by simpa using h1⟩
end Go.Proofs.Ytpcmihgfcaelfaa
namespace Go.Proofs.Ytpcmihgfcaelfaa
open Go.RowKit Go.Shelf

structure RgRel (V : List Int) (left : Lit → Bool) (pre : List PairD) : Prop where
  nd : (pre.map Prod.fst).Nodup
  ok : ∀ p ∈ pre, p.1 ∈ V ∧ p.2 = (V.count p.1 : Nat)
  rest : ∀ k, i64B k → (left (.int .i64 k) = true ↔ k ∈ V ∧ k ∉ pre.map Prod.fst)
theorem RgRel.nil {V : List Int} {left : Lit → Bool} (h : ∀ k, i64B k → left (.int .i64 k) = decide (k ∈ V)) : RgRel V left [] := by
  refine ⟨by simp, fun p hp => by simp at hp, fun k hk => ?_⟩
  rw [h k hk]; simp
theorem RgRel.next {V : List Int} {left : Lit → Bool} {pre : List PairD} (h : RgRel V left pre) {x c : Int} (hx : i64B x) (hl : left (.int .i64 x) = true) (hc : c = (V.count x : Nat)) : RgRel V (fun z => left z && !z.sameKey (.int .i64 x)) (pre ++ [(x, c)]) := by
  obtain ⟨hxv, hxp⟩ := (h.rest x hx).1 hl
  refine ⟨?_, fun p hp => ?_, fun k hk => ?_⟩
  · rw [List.map_append, List.nodup_append]
    refine ⟨h.nd, by simp, fun a ha b hb => ?_⟩
    simp only [List.map_cons, List.map_nil, List.mem_singleton] at hb
    subst hb; rintro rfl; exact hxp ha
  · rw [List.mem_append, List.mem_singleton] at hp
    rcases hp with hp | rfl
    · exact h.ok p hp
    · exact ⟨hxv, hc⟩
  · have hs : (Lit.int .i64 k).sameKey (.int .i64 x) = decide (k = x) := by
      rw [Bool.eq_iff_iff, Go.WideAt.sameKey_iff (lit_key x)]
      simp
    simp only [hs, Bool.and_eq_true, h.rest k hk, Bool.not_eq_true', decide_eq_false_iff_not, List.map_append, List.map_cons, List.map_nil, List.mem_append, List.mem_singleton, not_or]
    constructor
    · rintro ⟨⟨a, b⟩, c⟩; exact ⟨a, b, c⟩
    · rintro ⟨a, b, c⟩; exact ⟨⟨a, b⟩, c⟩
theorem RgRel.bd {V : List Int} {left : Lit → Bool} {pre : List PairD} (h : RgRel V left pre) (hV : ∀ k ∈ V, 0 ≤ k ∧ k < 10000000) : ∀ x ∈ pre, 0 ≤ x.1 ∧ x.1 < 1000000000000 := fun x hx => by
  have := hV x.1 (h.ok x hx).1; omega
theorem RgRel.tally {V : List Int} {left : Lit → Bool} {pre l' : List PairD} (h : RgRel V left pre) (hd : ∀ kl, left kl = false) (hV : ∀ k ∈ V, 0 ≤ k ∧ k < 10000000) (hp : l'.Perm pre) (hs : l'.Pairwise (fun a b => a.1 ≤ b.1)) : Tally l' V := by
  have hnd : (l'.map Prod.fst).Nodup := (hp.map Prod.fst).nodup_iff.2 h.nd
  have hne : l'.Pairwise (fun a b => a.1 ≠ b.1) := by
    unfold List.Nodup at hnd
    rw [List.pairwise_map] at hnd
    exact hnd
  refine ⟨(hs.and hne).imp fun {a b} h => by omega, fun p => ?_⟩
  rw [hp.mem_iff]
  constructor
  · exact h.ok p
  · rintro ⟨h1, h2⟩
    have hk : p.1 ∈ pre.map Prod.fst := by
      by_cases hk : p.1 ∈ pre.map Prod.fst
      · exact hk
      · have := (h.rest p.1 (by have := hV p.1 h1; unfold i64B; omega)).2 ⟨h1, hk⟩
        rw [hd] at this; cases this
    rw [List.mem_map] at hk
    obtain ⟨q, hq, he⟩ := hk
    have := (h.ok q hq).2
    rw [he, ← h2] at this
    obtain ⟨a, b⟩ := p; obtain ⟨c, d⟩ := q
    simp only at he this
    subst he; subst this; exact hq
theorem nodup_le : ∀ {a b : List Int}, a.Nodup → (∀ x ∈ a, x ∈ b) → a.length ≤ b.length
  | [], _, _, _ => Nat.zero_le _
  | x :: a, b, hn, h => by
    rw [List.nodup_cons] at hn
    have hx := h x (by simp)
    have h1 := nodup_le (a := a) (b := b.erase x) hn.2 fun y hy => (List.mem_erase_of_ne (fun e => hn.1 (by rw [← e]; exact hy))).2 (h y (by simp [hy]))
    have h2 := List.length_erase_of_mem hx
    have h3 := List.length_pos_of_mem hx
    rw [List.length_cons]; omega
theorem RgRel.len {V : List Int} {left : Lit → Bool} {pre : List PairD} (h : RgRel V left pre) : pre.length ≤ V.length := by
  have h1 : (pre.map Prod.fst).length ≤ V.length := by
    refine nodup_le h.nd fun k hk => ?_
    rw [List.mem_map] at hk
    obtain ⟨p, hp, rfl⟩ := hk
    exact (h.ok p hp).1
  rwa [List.length_map] at h1
theorem vals_right {l : List VoD} (h : mayVB l = true) : ∀ k ∈ valsV l, 0 ≤ k ∧ k < 10000000 := by
  intro k hk
  unfold valsV at hk
  rw [List.mem_flatten] at hk
  obtain ⟨q, hq, hk⟩ := hk
  rw [List.mem_map] at hq
  obtain ⟨d, hd, rfl⟩ := hq
  exact right_vals ((mayVB_iff.1 h).1 d hd) k hk
end Go.Proofs.Ytpcmihgfcaelfaa
namespace Go.Proofs.Ytpcmihgfcaelfaa
open Go.RowKit Go.Shelf
attribute [local go_sem] Oper.semAt_some

def CountsPost (w : World) (x : List VoD) (e : Ending) (w' : World) : Prop := ∃ v', e = .returned v' ∧ PairsAt w' v' (countsV x) ∧ (∀ k, v'.ownBlock = some k → w.heap.size ≤ k) ∧ Below w.heap.size w w'
theorem vals_len {x : List VoD} {k : Nat} {n : Nat} (h : (valsV x).length ≤ n) : (valsV (x.take k)).length ≤ n := by
  have e : (valsV x).length = (valsV (x.take k)).length + (valsV (x.drop k)).length := by
    unfold valsV
    rw [← List.length_append, ← List.flatten_append, ← List.map_append, List.take_append_drop]
  omega
theorem vals_small {x : List VoD} (h : SmallTrees x) (hk : x.length ≤ 64) : (valsV x).length ≤ 600000 := by
  have key : ∀ l : List VoD, (∀ d ∈ l, (pairsN d.map).length ≤ 2000) → (valsV l).length ≤ l.length * 2000 := fun l => by
    induction l with
    | nil => intro _; simp [valsV]
    | cons a l ih =>
      intro hx
      have h1 := hx a (by simp)
      have h2 := ih (fun d hd => hx d (by simp [hd]))
      have e : valsV (a :: l) = valsP (pairsN a.map) ++ valsV l := by simp [valsV]
      rw [e, List.length_append, List.length_cons]
      unfold valsP
      rw [List.length_map]; omega
  have := key x h
  omega
/-- between two volumes -/
def COut (w1 : World) (x : List VoD) (k : Nat) (ds : List Deferred) (wr : World) : Prop :=
  CMap wr w1.heap.size (valsV (x.take k)) ∧ Boxed wr (w1.heap.size + 1) 89 (.map (some w1.heap.size)) ∧ Marks w1.heap.size ds wr ∧ Below w1.heap.size w1 wr
/-- the rounds of the range over the map -/
def RgInv (w1 : World) (q : Nat) (V : List Int) (ds : List Deferred) (cnt : Nat) (v : Value) (r : Nat) (W : World) : Prop :=
  ∃ (D : DataW Unit) (left : Lit → Bool) (pre : List PairD), W.ranges Try.prog 3 (plainElem Try.prog 3) w1.heap.size r V.length D left cnt ∧ (W.ownsRow q 66 2 v pre.length (pairRows pre).flatten ∧ v ≠ .slice none 0 0) ∧ RgRel V left pre ∧
    (∀ k, i64B k → D.atKey (.int .i64 k) (.lit (.int .i64 0)) = .lit (.int .i64 (V.count k : Nat))) ∧ Marks w1.heap.size ds W ∧ Below w1.heap.size w1 W
theorem wf_bd {k : Int} (h : (Lit.int .i64 k).wf = true) : i64B k := by
  simp [Lit.wf, IntKind.min, IntKind.max, IntKind.signed, IntKind.bits] at h
  unfold i64B; omega
theorem settled_keeps {B : Nat} {W W' : World} (h : Settled B W W') : Keeps W W' := fun a v hv => by
  have hlt := World.block_lt_of_cell? _ _ hv
  obtain ⟨o, ho⟩ : ∃ o, W.heap[a.block]? = some o := ⟨_, Array.getElem?_eq_getElem hlt⟩
  have hc : o.isCells = true := by
    unfold World.cell? at hv
    rw [ho] at hv
    cases o <;> first | rfl | simp at hv
  exact (World.cell?_of_block ((h.2 _ o ho hc).trans ho.symm)).trans hv
def CFrame (p : Option Addr) (N cp b k : Nat) (ds : List Deferred) (a : Act) : Prop :=
  ∃ u5 u7 u18 u19 u20 u21 u22 u23 u24 u25 u26 u27 u28 u29 u30 u31 u32 : Value, a = { tmps := #[.slice p N cp, undef, .slice none 0 0, .pointer (some ⟨b + 1, 0, none⟩), undef, u5, undef, u7, undef, undef, undef, .slice p N cp, .bool true, .bool false, .map (some b), .slice p N cp, .int .i64 N, .int .i64 (k : Nat), u18, u19, u20, u21, u22, u23, u24, u25, u26, u27, u28, u29, u30, u31, u32, undef, undef, undef, undef, undef, undef, undef, undef, undef, undef, undef, undef, undef, undef, undef, undef, undef, undef, undef], defers := ds }
set_option maxRecDepth 100000 in
set_option maxHeartbeats 8000000 in
theorem pcountsB_any (x : List VoD) (v1 : Value) (w : World) (h1 : VolsAt w v1 x) (l1 : BigTrees x) (l2 : mayVB x = true → (valsV x).length ≤ 600000) : Calls Try.prog 36 #[v1] w (CountsPost w x) := by
  have HL1 := Lib.hid l1; have HL2 := Lib.hid l2; have HV1 := Lib.hid h1
  have hmm := @run_makeMap Try.prog
  obtain ⟨p, cp, rfl, a1, a2, ha⟩ := h1
  have HA := Lib.hid ha
  obtain ⟨N, hN⟩ : ∃ N, x.length = N := ⟨_, rfl⟩
  rw [hN] at a1 HV1; rw [hN]
  have hlc : (N : Int) ≤ 9223372036854775807 := by unfold maxLen at a2; omega
  have HN := Lib.hid hN
  clear ha hN a1 a2 l1 l2
  rw [← callsIn_wide (n := 6)]
  refine callsIn_of_wp_marks Try.func36 rfl trivial ?_ rfl
  simp only [Try.ntmps36, List.size_toArray, List.length_cons, List.length_nil, Nat.reduceAdd, Nat.reduceSub, Array.replicate_succ, Array.replicate_zero, List.push_toArray, List.append_toArray, List.nil_append, List.cons_append]
  gi_wp2_with fail
  refine ⟨trivial, ?_⟩
  refine (callsIn_wide.2 (vMayB_any x _ _ HV1.out HL1.out)).mono ?_
  rintro e w1 ⟨rfl, hb⟩
  have HB1 := Lib.hid hb
  clear hb
  cases hm : mayVB x with
  | false =>
    have HF := Lib.hid (show countsV x = [] by unfold countsV; rw [hm, if_neg (by simp)])
    clear hm
    gi_wp2_with fail
    refine ⟨_, results_tmp rfl _ _ _, _, rfl, ?_, fun k hk => (by cases hk), HB1.out⟩
    rw [HF.out]
    exact ⟨none, 0, rfl, Nat.le_refl _, by unfold maxLen; omega, fun i x hx => by simp at hx⟩
  | true =>
    have HM := Lib.hid hm
    have hn64 : N ≤ 64 := by have := (mayVB_iff.1 hm).2.2; have := HN.out; omega
    clear hm
    gi_wp2_with fail
    obtain ⟨W1, hW1⟩ : ∃ W, (w1.alloc (.map #[] 0)).alloc (.cells #[.map (some w1.heap.size)] 89) = W := ⟨_, rfl⟩
    have hc0 : COut w1 x 0 [] W1 := by
      rw [← hW1]
      refine ⟨?_, ?_, trivial, ((Below.refl _ _).alloc (Nat.le_refl _) _).alloc (by simp) _⟩
      · rw [List.take_zero]; exact (CMap.new w1).kept (World.grownBy_alloc _ _ none) (by simp)
      · have := Boxed.new (w1.alloc (.map #[] 0)) 89 (.map (some w1.heap.size))
        rwa [World.size_alloc] at this
    rw [hW1]
    clear hW1
    refine wpIn_loop (fun a wr => ∃ (k : Nat) (ds : List Deferred), CFrame p N cp w1.heap.size k ds a ∧ k ≤ N ∧ COut w1 x k ds wr) (fun a _ => N - (intOf (a.tmps.getD 17 undef)).toNat) ⟨0, [], ⟨_, _, _, _, _, _, _, _, _, _, _, _, _, _, _, _, _, rfl⟩, Nat.zero_le _, hc0⟩ ?_
    clear hc0
    rintro a wr ⟨k, ds, ⟨u5, u7, u18, u19, u20, u21, u22, u23, u24, u25, u26, u27, u28, u29, u30, u31, u32, rfl⟩, hk, hmap, hbx, hms, hb⟩
    have HMAP := Lib.hid hmap; have HBX := Lib.hid hbx; have HMS := Lib.hid hms; have HB := Lib.hid hb
    clear hmap hms hb
    by_cases hlt : k < N
    case neg =>
      obtain rfl : k = N := by omega
      have hmm2 : decide ((k : Int) < (k : Int)) = false := by simp
      have hV : valsV (x.take k) = valsV x := by rw [List.take_of_length_le (by rw [HN.out]; exact Nat.le_refl _)]
      have HVL := Lib.hid (show (valsV (x.take k)).length ≤ 600000 from vals_len (HL2.out HM.out))
      rw [hV] at HMAP HVL
      obtain ⟨V, hVV⟩ : ∃ V, valsV x = V := ⟨_, rfl⟩
      rw [hVV] at HMAP HVL
      have HVV := Lib.hid hVV
      obtain ⟨D, d1, d2, d3, d4⟩ := HMAP.out
      have HD := Lib.hid (And.intro d2 (And.intro d3 d4)); have HD1 := Lib.hid d1
      obtain ⟨sz, hsz⟩ : ∃ n, Maps.size D = n := ⟨_, rfl⟩
      have hszl : sz ≤ 600000 := by have h1 := d1.size_le; have := HVL.out; omega
      have cb := hbx.cell
      obtain ⟨i0, hi, hz0, hz1, hz2⟩ := info_parts infoP
      obtain ⟨wm, hmk, hown0, hg0⟩ := run_make_own (P := Try.prog) wr wr.heap.size 38 66 i0 (.agg #[.int .i64 0, .int .i64 0]) 2 Try.underlying38 hi hz0 hz1 .i64 .i64 sz (by rw [hz2]; omega) (by unfold maxLen; omega) (Nat.le_refl _)
      have hmk' : (Instr.makeSlice 38 (.int .i64 0) (.int .i64 sz)).run Try.prog wr = .ok (.slice (some ⟨wr.heap.size, 0, none⟩) 0 sz) wm := hmk
      have cb2 := hg0.cell cb (by simp)
      have HOW := Lib.hid hown0; have HG0 := Lib.hid hg0; have HD2 := Lib.hid (d1.kept hg0 (by simp))
      have HSZ := Lib.hid hsz
      have hrange := HD2.out
      clear hV hVV d2 d3 d4 hmk hown0 hg0 hi hz0 hz1 hz2 hbx hmm
      gi_wp2_with (first | (gi_at_len; refine wpListIn_len_own _ rfl _ _ rfl 3 3 Try.underlying89 (plainElem Try.prog 3) w1.heap.size V.length D rfl d1 ?_) | (gi_at_range; refine wpListIn_range_own _ rfl _ _ rfl 3 3 (Maps.int_keyed Try.underlying3) Try.underlying89 (plainElem Try.prog 3) w1.heap.size V.length D rfl hrange ?_))
      intro w3 hrg hg3 hs3
      have HS0 := Lib.hid (show w.heap.size ≤ w1.heap.size ∧ w1.heap.size + 1 < wr.heap.size ∧ wr.heap.size < wm.heap.size ∧ wm.heap.size < w3.heap.size from ⟨HB1.out.size, HBX.out.lt, (HOW.out.lt _ rfl).2, by omega⟩)
      have HRR := Lib.hid (show RgInv w1 wr.heap.size V ds sz (.slice (some ⟨wr.heap.size, 0, none⟩) 0 sz) wm.heap.size w3 from by
        refine ⟨D, Maps.has D, [], hrg, ⟨HOW.out.kept hg3 (.inr (by simp [Value.ownBlock])), by simp⟩, RgRel.nil (HD.out.2.2), HD.out.2.1, ?_, ?_⟩
        · exact HMS.out.step fun D hB2 hD2 => (hg3.block D (by have := (Array.getElem?_eq_some_iff.1 hD2).1; have := HS0.out; omega) (by simp)).trans ((HG0.out.block D (Array.getElem?_eq_some_iff.1 hD2).1 (by simp)).trans hD2)
        · exact HB.out.trans (below_row (below_row (Below.refl _ _) (by have := HS0.out; omega) HG0.out (by simp)) (by have := HS0.out; omega) hg3 (by simp)))
      clear hrg hg3 hs3 hrange d1 hmk' cb cb2 HOW HD HG0 HD2 HD1 HMS HB
      gi_wp2_with fail
      obtain ⟨q, hq⟩ : ∃ q, wr.heap.size = q := ⟨_, rfl⟩
      obtain ⟨r, hr⟩ : ∃ r, wm.heap.size = r := ⟨_, rfl⟩
      rw [hq, hr] at HRR ⊢
      rw [hr] at HS0; rw [hq] at HS0
      clear hq hr
      gi_loopg [8] sz (fun g v wr2 => RgInv w1 q V ds g v r wr2)
      case atStart => exact HRR.out
      case round =>
        obtain ⟨D, left, pre, hrg, ⟨hown, hnil⟩, hrl, hat, hms, hb⟩ := hrel
        obtain ⟨g5, c5, rfl⟩ : ∃ g5 c5, u8 = .slice (some ⟨g5, 0, none⟩) pre.length c5 := by
          rcases ow_slice hown with ⟨h, _, _⟩ | h
          · exact absurd h hnil
          · exact h
        have HOW := Lib.hid hown; have HRL := Lib.hid hrl; have HAT := Lib.hid hat; have HMS := Lib.hid hms; have HB := Lib.hid hb; have HRG := Lib.hid hrg
        have HPL := Lib.hid (show pre.length ≤ 600000 by have h1 := hrl.len; have := HVL.out; omega)
        obtain ⟨np, hnp⟩ : ∃ n, pre.length = n := ⟨_, rfl⟩
        rw [hnp] at HOW HPL ⊢
        have HNP := Lib.hid hnp
        clear hown hnil hrl hat hms hb hnp HRR
        gi_wp2_with (gi_at_next; refine wpListIn_next_ranges_ii _ rfl _ rfl 3 3 .i64 .i64 (Maps.int_keyed Try.underlying3) Try.underlying3 Try.underlying3 w1.heap.size r V.length D left _ rfl hrg ?_ ?_)
        · intro hc0 hl0
          have HL0 := Lib.hid hl0
          clear hc0 hl0 hrg
          gi_wp2_with fail
          have hbd := HRL.out.bd (by rw [← HVV.out]; exact vals_right HM.out)
          have hso := sort_any g5 c5 q pre wr (by rw [HNP.out]; exact HOW.out) hbd (by rw [HNP.out]; have := HPL.out; omega)
          rw [HNP.out] at hso
          refine ⟨trivial, ?_⟩
          refine (callsIn_wide.2 hso).mono ?_
          rintro e w5 ⟨rfl, l', hp, hs, hat5, hg5⟩
          have hl' : l' = countsV x := Tally.one (HRL.out.tally HL0.out (by rw [← HVV.out]; exact vals_right HM.out) hp hs) (by rw [← HVV.out]; exact counts_tally HM.out)
          have hpn : l'.length = np := hp.length_eq.trans HNP.out
          have HA5 := Lib.hid (show PairsAt w5 (.slice (some ⟨g5, 0, none⟩) np c5) (countsV x) by rw [← hl', ← hpn]; exact hat5)
          have hgq : q ≤ g5 := (HOW.out.lt g5 rfl).1
          have HB5 := Lib.hid (show Below w1.heap.size w1 w5 from below_row HB.out HB.out.size hg5 (fun b hb e => by injection e with e; have := HS0.out; omega))
          obtain ⟨cur5, hcur5, _⟩ := own_block HOW.out
          have HM5 := Lib.hid (show Marks w1.heap.size ds w5 from HMS.out.step fun D2 _ hD2 => (hg5.block D2 (Array.getElem?_eq_some_iff.1 hD2).1 (fun e => by injection e with e; subst e; rw [hcur5] at hD2; cases hD2)).trans hD2)
          have HGQ := Lib.hid (show w.heap.size ≤ g5 by have := HS0.out; have := HB1.out.size; omega)
          clear hbd hso hp hs hat5 hl' hpn hg5 hcur5
          gi_wp2_with fail
          refine marks_leave HM5.out fun W' hs => ⟨.slice (some ⟨g5, 0, none⟩) np c5, by simp [results, Try.results36, go_sem], _, rfl, HA5.out.keep (settled_keeps hs), fun k hk => (by injection hk with hk; rw [← hk]; exact HGQ.out), ?_⟩
          exact btrans2 HB1.out (HB5.out.trans hs.1) HB1.out.size
        · intro y c w4 cnt4 hwy hwc hly hat4 hrg4 hlt4 hg4 hs4 hen
          have hyb := wf_bd hwy
          have hcc : c = (V.count y : Nat) := by
            have := (hat4 _).symm.trans (HAT.out y hyb)
            injection this with this; injection this
          have hrn := HRL.out.next hyb hly hcc
          obtain ⟨cur5, hcur5, _⟩ := own_block HOW.out
          have hgq : q ≤ g5 ∧ g5 < wr.heap.size := HOW.out.lt g5 rfl
          have hrg5 : r ≠ g5 := fun e => by
            obtain ⟨_, _, _, _, _, _, _, _, _, h5, _⟩ := HRG.out
            rw [e, hcur5] at h5; cases h5
          have how4 := HOW.out.kept hg4 (.inr (by simp [Value.ownBlock]; exact fun e => hrg5 e.symm))
          obtain ⟨g6, c6, w6, ra, ro, rg6, _⟩ := pair_append3 w4 q np _ pre y c how4 (by have := HPL.out; omega) (by have := HS0.out; omega)
          have hrg6 := (hrg4.alloc (.cells #[.int .i64 y, .int .i64 c] 66)).kept rg6 (by simp [Value.ownBlock]; have := HS0.out; omega) (by simp [Value.ownBlock]; exact hrg5)
          have hr4 : ∀ D2 : Nat, wr.heap[D2]? = some (.deferred (some [])) → w6.heap[D2]? = some (.deferred (some [])) := fun D2 hD2 => by
            have h1 : w4.heap[D2]? = some (.deferred (some [])) := (hg4.block D2 (Array.getElem?_eq_some_iff.1 hD2).1 (fun e => by
              injection e with e
              obtain ⟨_, _, _, _, _, _, _, _, _, h5, _⟩ := HRG.out
              rw [← e, hD2] at h5; cases h5)).trans hD2
            have h2 := alloc_old (o := .cells #[.int .i64 y, .int .i64 c] 66) h1
            exact (rg6.block D2 (Array.getElem?_eq_some_iff.1 h2).1 (fun e => by
              have e : D2 = g5 := by simpa [Value.ownBlock] using e
              subst e; rw [hcur5] at hD2; cases hD2)).trans h2
          have HR6 := Lib.hid (show RgInv w1 q V ds cnt4 (.slice (some ⟨g6, 0, none⟩) (np + 1) c6) r w6 from
            ⟨D, _, pre ++ [(y, c)], hrg6, ⟨by rw [List.length_append, HNP.out]; exact ro, by simp⟩, hrn, HAT.out, HMS.out.step fun D2 _ hD2 => hr4 D2 hD2,
              below_row (below_row (below_row HB.out HB.out.size hg4 (fun b hb e => by injection e with e; have := HS0.out; omega)) (by have := HS0.out; have := hg4.size; omega) (World.grownBy_alloc _ _ none) (by simp)) (by have := HS0.out; have := hg4.size; simp; omega) rg6 (fun b hb e => by
                have e : b = g5 := by simpa [Value.ownBlock] using e
                have := HS0.out; omega)⟩)
          have HRA := Lib.hid ra; have HLT := Lib.hid hlt4
          clear hrg hwy hwc hly hat4 hrg4 hg4 hs4 hyb hcc hrn hcur5 hgq hrg5 how4 ra ro rg6 hrg6 hr4 hlt4
          gi_wp2_with (gi_at_builtin; refine wpListIn_append_run _ rfl _ _ _ rfl _ _ rfl rfl _ _ HRA.out ?_)
          gi_roundg cnt4
          case measure => exact HLT.out
          case rel => exact HR6.out
    case pos =>
      have hki : (k : Int) < (N : Int) := by omega
      have hwk : wrap64 ((k : Int) + 1) = (k : Int) + 1 := by unfold wrap64; omega
      obtain ⟨s, hs⟩ : ∃ s, x[k]? = some s := ⟨_, List.getElem?_eq_getElem (by rw [HN.out]; exact hlt)⟩
      obtain ⟨j1, j2, g, o, a, b, c, rfl, e0, e1, e2, e3, e4, e5⟩ := HA.out k s hs
      obtain ⟨pu, nu, cu, pv, nv, cv, pw, nw, cw, rfl, rfl, rfl⟩ := node_slices e5
      have r0 := cell_stays (btrans2 HB1.out HB.out HB1.out.size) e0; have r1 := cell_stays (btrans2 HB1.out HB.out HB1.out.size) e1; have r2 := cell_stays (btrans2 HB1.out HB.out HB1.out.size) e2; have r3 := cell_stays (btrans2 HB1.out HB.out HB1.out.size) e3; have r4 := cell_stays (btrans2 HB1.out HB.out HB1.out.size) e4
      have HS := Lib.hid hs; have HNA := Lib.hid e5
      have HSR := Lib.hid ((mayVB_iff.1 HM.out).1 s (List.mem_of_getElem? hs)); have HST := Lib.hid (HL1.out s (List.mem_of_getElem? hs))
      obtain ⟨S, hS⟩ : ∃ S, s.size = S := ⟨_, rfl⟩
      obtain ⟨I, hI⟩ : ∃ I, s.id = I := ⟨_, rfl⟩
      have HSE := Lib.hid hS
      rw [hS] at r1; rw [hI] at r0
      obtain ⟨W2, hW2⟩ : ∃ W, wr.alloc (.cells #[.int .i64 I, .int .i64 S, .slice pu nu cu, .slice pv nv cv, .slice pw nw cw] 45) = W := ⟨_, rfl⟩
      have hb2 : Below wr.heap.size wr W2 := by rw [← hW2]; exact (Below.refl _ _).alloc (Nat.le_refl _) _
      have b1 : W2.heap[wr.heap.size]? = some (.cells #[.int .i64 I, .int .i64 S, .slice pu nu cu, .slice pv nv cv, .slice pw nw cw] 45 (0, 0)) := by rw [← hW2]; exact World.alloc_heap_new _ _
      obtain ⟨x0, x1, x2, x3, x4⟩ := blk_cells b1
      have HB2 := Lib.hid hb2
      have HB2s := Lib.hid (Array.getElem?_eq_some_iff.1 b1).1
      clear hs hS hI e0 e1 e2 e3 e4 e5 j1 j2 b1 hb2 hbx
      gi_wp2_with fail
      clear hW2
      refine ⟨trivial, ?_⟩
      refine (callsIn_wide.2 (vpairs_any _ _ _ 0 S _)).mono ?_
      rintro e w' ⟨rfl, rfl⟩
      gi_wp2_with fail
      obtain ⟨W0, hW0⟩ : ∃ W, ((W2.alloc (.cells #[.slice pu nu cu, .slice pv nv cv, .slice pw nw cw] 43)).alloc (.cells #[.int .i64 0] 3)).alloc (.cells #[.int .i64 S] 3) = W := ⟨_, rfl⟩
      have hb3 := box3 W2 (.slice pu nu cu) (.slice pv nv cv) (.slice pw nw cw) (.int .i64 0) (.int .i64 S)
      have hb0 : Below W2.heap.size W2 W0 := by rw [← hW0]; exact (((Below.refl _ _).alloc (Nat.le_refl _) _).alloc (by simp) _).alloc (by simp; omega) _
      rw [hW0] at hb3 ⊢
      clear hW0
      have HBW := Lib.hid (btrans HB2.out hb0)
      have HW0 := Lib.hid (show w.heap.size ≤ w1.heap.size ∧ w1.heap.size + 1 < wr.heap.size ∧ wr.heap.size < W2.heap.size ∧ W2.heap.size ≤ W0.heap.size from ⟨HB1.out.size, HBX.out.lt, HB2s.out, hb0.size⟩)
      have hseq := vpairs_seq 5 W2.heap.size (fun b => b < w.heap.size) s.map 0 S _ _ _ W0 (HNA.out.keep (fun q v hv => mask_cell.2 ⟨World.block_lt_of_cell? _ _ hv, cell_stays (btrans2 (btrans2 HB1.out HB.out HB1.out.size) HBW.out (by have := HW0.out; omega)) hv⟩)) (by have := HST.out; unfold BigTree at this; omega) hb3.1 hb3.2.1 hb3.2.2
      have HLN := Lib.hid (show walkN s.map 0 S = pairsN s.map from walk_right HSR.out HSE.out)
      have HVL := Lib.hid (show (valsV (x.take k)).length ≤ 600000 from vals_len (HL2.out HM.out))
      have HVB := Lib.hid (right_vals HSR.out)
      have HMAP0 := Lib.hid (show CMap W0 w1.heap.size (valsV (x.take k)) from HMAP.out.kept (grown_of_below HBW.out none) (by simp))
      clear hb0 hb3 x0 x1 x2 x3 x4 r0 r1 r2 r3 r4
      rw [HLN.out] at hseq
      refine wp_range_g (n := 6) (gf := 71) (lb := #[.pointer (some ⟨W2.heap.size, 0, none⟩), .pointer (some ⟨W2.heap.size + 1, 0, none⟩), .pointer (some ⟨W2.heap.size + 1 + 1, 0, none⟩)]) (by omega) rfl (enters_of Try.func71 (by kernel_rfl) rfl) hseq ?hM (fun _ => rfl) (CtInv W0 w1.heap.size (valsV (x.take k)))
        (fun _ _ _ => False) ?i1 ?i2 ?x1 ?x2 ?start
        (fun _ y a' _ => a' = { tmps := #[.slice (some ⟨g, o, none⟩) N cp, undef, .slice none 0 0, .pointer (some ⟨w1.heap.size + 1, 0, none⟩), undef, .pointer (some ⟨wr.heap.size, 0, none⟩), undef, .int .i64 y.2, undef, undef, undef, .slice (some ⟨g, o, none⟩) N cp, .bool true, .bool false, .map (some w1.heap.size), .slice (some ⟨g, o, none⟩) N cp, .int .i64 (N : Nat), .int .i64 (k : Nat), .bool true, .pointer (some ⟨g, o + k * 5, none⟩), .agg #[.int .i64 I, .int .i64 S, .slice pu nu cu, .slice pv nv cv, .slice pw nw cw], .pointer (some ⟨wr.heap.size, 2, none⟩), .agg #[.slice pu nu cu, .slice pv nv cv, .slice pw nw cw], .pointer (some ⟨wr.heap.size, 1, none⟩), .int .i64 S, .func (.func 71) #[] #[.pointer (some ⟨W2.heap.size, 0, none⟩), .pointer (some ⟨W2.heap.size + 1, 0, none⟩), .pointer (some ⟨W2.heap.size + 1 + 1, 0, none⟩)], .int .i64 y.1, .int .i64 y.2, u28, u29, u30, u31, u32, undef, undef, undef, undef, undef, undef, undef, undef, undef, undef, undef, undef, undef, undef, undef, undef, undef, undef, undef], defers := [] }) ?ax ?assign ?body ?done ?stop
      case hM => intro b hb; have := HW0.out; omega
      case i1 => exact fun M M' s A B h hg hn => h.kept (by have := HW0.out; omega) hg (fun r e => by cases e) hn
      case i2 => exact fun M s A B r o h hg hr ho hc => h.kept (by have := HW0.out; omega) hg (fun r' e => by cases e; exact hr) (fun b hb => .inl hb)
      case x1 => exact fun _ _ _ _ h _ => h
      case x2 => exact fun _ _ _ _ _ _ h _ _ _ _ => h
      case start =>
        refine ⟨by have := HMAP0.out; simpa [valsP] using this, fun h => by have := HW0.out; omega, fun _ _ _ => rfl, Below.refl _ _⟩
      case ax => exact fun M x a' A B r o h hg hr ho hc => h
      case assign =>
        intro l M pre x W K hi hK
        dsimp only [encQ]
        gi_wp2
        exact hK _ _ ⟨rfl, rfl, rfl, Nat.le_refl _, fun _ _ _ => rfl⟩ rfl
      case body =>
        rintro l M pre y a' W hi rfl hlen
        have HI := Lib.hid hi
        have hpl : pre.length ≤ 600000 := by
          have h1 := HST.out; have h2 := hlen.length_le; rw [List.length_append] at h2; unfold BigTree at h1; omega
        have hbx : Boxed W (w1.heap.size + 1) 89 (.map (some w1.heap.size)) := (hi.old _ (by have := HW0.out; omega) (by omega)).trans ((HBW.out.block _ (by have := HW0.out; omega)).trans HBX.out)
        have cb := hbx.cell
        have hy : 0 ≤ y.2 ∧ y.2 < 10000000 := HVB.out y.2 (by unfold valsP; exact List.mem_map_of_mem (hlen.subset (by simp)))
        have hyb : i64B y.2 := by unfold i64B; omega
        obtain ⟨D, d1, d2, d3, d4⟩ := hi.map
        have D2 := Lib.hid (And.intro d2 (And.intro d3 d4))
        obtain ⟨nv0, hnv⟩ : ∃ n, (valsV (x.take k) ++ valsP pre).length = n := ⟨_, rfl⟩
        have hnv2 : nv0 ≤ 1300000 := by
          have := HVL.out; rw [List.length_append] at hnv; unfold valsP at hnv; rw [List.length_map] at hnv; omega
        rw [hnv] at d1
        have hmx : nv0 < maxLen := by unfold maxLen; omega
        have HNV := Lib.hid hnv; have HNV2 := Lib.hid hnv2
        have hkey := Maps.keyOf_int_mk Try.underlying3 (lit_wf hyb)
        have HYB := Lib.hid hyb
        clear hi hseq d2 d3 d4 hnv hnv2 hbx hy hyb
        gi_wp2_with (gi_at_lookup; refine wpListIn_lookup_own_int _ rfl _ _ 89 rfl 3 3 .i64 (Maps.int_keyed Try.underlying3) Try.underlying89 Try.underlying3 (Try.zeroValue3 _) w1.heap.size nv0 _ rfl d1 _ _ rfl hkey ?_)
        intro c hat hwc
        have hcc : c = ((valsV (x.take k) ++ valsP pre).count y.2 : Nat) := by
          have := (D2.out.2.1 _ HYB.out).symm.trans hat
          injection this with this; injection this with _ this; exact this.symm
        have hcl : (valsV (x.take k) ++ valsP pre).count y.2 ≤ nv0 := by rw [← HNV.out]; exact List.count_le_length
        have HCW := Lib.hid (show wrap64 (c + 1) = c + 1 by have := HNV2.out; unfold wrap64; omega)
        have HCC := Lib.hid hcc
        clear hat hwc hcc hcl
        gi_wp2_with (gi_at_mapUpdate; refine wpListIn_mapUpdate_own _ rfl _ _ _ 89 rfl 3 3 (Maps.int_keyed Try.underlying3) Try.underlying89 _ w1.heap.size nv0 _ rfl d1 hmx _ _ _ rfl rfl hkey _ [] (plainElem_int Try.underlying3 (wrap64_wf _)) ?_)
        intro w9 hown9 hg9
        rw [HCW.out, HCC.out] at hown9
        rw [← HNV.out] at hown9
        have HC9 := Lib.hid (cmap_put D2.out.1 D2.out.2.1 D2.out.2.2 hown9)
        have HG9 := Lib.hid hg9
        clear hown9 hg9 d1
        gi_wp2_with fail
        refine ⟨KeepsFrom.of_grownBy HG9.out (fun j e => by cases e; have := HW0.out; omega), Keep.grown HG9.out (fun r e => by cases e; exact HI.out.m1), ?_, HI.out.m1, fun k2 hk2 hne => ?_, ?_⟩
        · have := HC9.out
          rw [List.append_assoc] at this
          unfold valsP at this ⊢
          rw [List.map_append]; exact this
        · exact (HG9.out.block k2 (by have := HI.out.below.size; omega) (fun e => hne (by injection e))).trans (HI.out.old k2 hk2 hne)
        · exact below_row HI.out.below (by have := HI.out.below.size; have := HW0.out; omega) HG9.out (fun b hb e => by injection e with e; omega)
      case done =>
        rintro Dd M W hD hi hK
        have HC9 := Lib.hid hi.map; have HB9 := Lib.hid hi.below; have HO9 := Lib.hid hi.old; have HK9 := Lib.hid hK
        clear hi hK hseq
        have HM0 := Lib.hid (HMS.out.below HBW.out)
        have HDD := Lib.hid hD
        have HCO := Lib.hid (show COut w1 x (k + 1) ({ target := .collected Dd, args := #[] } :: ds) W from by
          refine ⟨by rw [valsV_snoc HS.out]; exact HC9.out, (HO9.out _ (by have := HW0.out; omega) (by omega)).trans ((HBW.out.block _ (by have := HW0.out; omega)).trans HBX.out), ⟨⟨Dd, by have := HW0.out; have := HDD.out; omega, rfl, HK9.out, Marks.fresh HDD.out HM0.out⟩, HM0.out.step fun D hB2 hD2 => ?_⟩, ?_⟩
          · refine (HO9.out D (Array.getElem?_eq_some_iff.1 hD2).1 (fun e => ?_)).trans hD2
            obtain ⟨_, ⟨es, clock, h5, _⟩, _⟩ := HMAP0.out
            rw [e, h5] at hD2; cases hD2
          · exact (HB.out.trans (below_low HBW.out (by have := HW0.out; omega))).trans HB9.out)
        clear hD HC9 HB9 HO9 HK9 HM0 HDD
        gi_wp2_with fail
        refine ⟨⟨k + 1, _, ⟨_, _, _, _, _, _, _, _, _, _, _, _, _, _, _, _, _, rfl⟩, by omega, HCO.out⟩, ?_⟩
        show N - (intOf (.int .i64 ((k : Int) + 1))).toNat < N - (intOf (.int .i64 (k : Int))).toNat
        exact meas_step hlt
      case stop => exact fun D c pre W hD hp h hK => h.elim
theorem pcounts_any (x : List VoD) (v1 : Value) (w : World) (h1 : VolsAt w v1 x) (l1 : SmallTrees x) : Calls Try.prog 36 #[v1] w (CountsPost w x) :=
  pcountsB_any x v1 w h1 (fun d hd => (l1 d hd).big) fun hm => vals_small l1 (mayVB_iff.1 hm).2.2
end Go.Proofs.Ytpcmihgfcaelfaa
namespace Go.Proofs.Ytpcmihgfcaelfaa
open Go.RowKit

/-- At, Len, Count, Old -/
abbrev UseD := Int × Int × Int × Bool
def U4 (g o : Nat) (a b c : Int) (d : Bool) (w : World) : Prop := w.cell? ⟨g, o, none⟩ = some (.int .i64 a) ∧ w.cell? ⟨g, o + 1, none⟩ = some (.int .i64 b) ∧ w.cell? ⟨g, o + 2, none⟩ = some (.int .i64 c) ∧ w.cell? ⟨g, o + 3, none⟩ = some (.bool d)
theorem U4.keep {g o : Nat} {a b c : Int} {d : Bool} {w w' : World} (h : U4 g o a b c d w) (hk : Keeps w w') : U4 g o a b c d w' := ⟨hk _ _ h.1, hk _ _ h.2.1, hk _ _ h.2.2.1, hk _ _ h.2.2.2⟩
def UsesAt (w : World) (v : Value) (l : List UseD) : Prop :=
  ∃ p c, v = .slice p l.length c ∧ l.length ≤ c ∧ c ≤ maxLen ∧ ∀ i x, l[i]? = some x → ∃ g o, p = some ⟨g, o, none⟩ ∧ U4 g (o + i * 4) x.1 x.2.1 x.2.2.1 x.2.2.2 w
theorem UsesAt.keep {w w' : World} {v : Value} {l : List UseD} (h : UsesAt w v l) (hk : Keeps w w') : UsesAt w' v l := by
  obtain ⟨p, c, h1, h2, h3, h4⟩ := h
  refine ⟨p, c, h1, h2, h3, fun i x hx => ?_⟩
  obtain ⟨g, o, e1, e2⟩ := h4 i x hx
  exact ⟨g, o, e1, e2.keep hk⟩
def TabsAt (w : World) (v : Value) (l : List (List UseD)) : Prop :=
  ∃ p c, v = .slice p l.length c ∧ l.length ≤ c ∧ c ≤ maxLen ∧ ∀ i x, l[i]? = some x → ∃ g o u, p = some ⟨g, o, none⟩ ∧ w.cell? ⟨g, o + i, none⟩ = some u ∧ UsesAt w u x
theorem TabsAt.keep {w w' : World} {v : Value} {l : List (List UseD)} (h : TabsAt w v l) (hk : Keeps w w') : TabsAt w' v l := by
  obtain ⟨p, c, h1, h2, h3, h4⟩ := h
  refine ⟨p, c, h1, h2, h3, fun i x hx => ?_⟩
  obtain ⟨g, o, u, e1, e2, e3⟩ := h4 i x hx
  exact ⟨g, o, u, e1, hk _ _ e2, e3.keep hk⟩
def useOk (u : UseD) : Bool := decide (1 ≤ u.2.1 ∧ u.2.1 ≤ 8 ∧ 0 ≤ u.1 ∧ u.1 + u.2.1 ≤ 16 ∧ 0 ≤ u.2.2.1 ∧ u.2.2.1 ≤ 1000000 ∧ (u.2.2.1 = 0 → u.2.2.2 = true))
def mayG : Int → List UseD → Bool
  | _, [] => true
  | e, u :: l => useOk u && decide (e ≤ u.1) && mayG (u.1 + u.2.1) l
def mayT (l : List UseD) : Bool := mayG 0 l
def sameT (a b : List UseD) : Bool := decide (a = b)
theorem mayG_drop {l : List UseD} {k : Nat} {u : UseD} {e : Int} (h : l[k]? = some u) : mayG e (l.drop k) = (useOk u && decide (e ≤ u.1) && mayG (u.1 + u.2.1) (l.drop (k + 1))) := by
  obtain ⟨hk, hx⟩ := List.getElem?_eq_some_iff.1 h
  rw [List.drop_eq_getElem_cons hk, hx]; rfl
theorem mayG_end {l : List UseD} {k : Nat} {e : Int} (h : l.length ≤ k) : mayG e (l.drop k) = true := by
  rw [List.drop_of_length_le h]; rfl
theorem mayG_bad {l : List UseD} {k : Nat} {u : UseD} {e : Int} (h : l[k]? = some u) (hb : ¬ (useOk u = true ∧ e ≤ u.1)) : mayG e (l.drop k) = false := by
  rw [mayG_drop h]
  rcases Bool.eq_false_or_eq_true (useOk u) with h1 | h1
  · rw [h1]; simp only [Bool.true_and, Bool.and_eq_false_iff, decide_eq_false_iff_not]; left; intro h2; exact hb ⟨h1, h2⟩
  · rw [h1]; rfl
theorem mayG_ok {l : List UseD} {k : Nat} {u : UseD} {e : Int} (h : l[k]? = some u) (h1 : useOk u = true) (h2 : e ≤ u.1) : mayG e (l.drop k) = mayG (u.1 + u.2.1) (l.drop (k + 1)) := by
  rw [mayG_drop h, h1]; simp [h2]
end Go.Proofs.Ytpcmihgfcaelfaa
namespace Go.Proofs.Ytpcmihgfcaelfaa
open Go.RowKit

set_option maxRecDepth 100000 in
set_option maxHeartbeats 2000000 in
theorem rsame14_any (x y : List UseD) (v1 v2 : Value) (w : World) (h1 : UsesAt w v1 x) (h2 : UsesAt w v2 y) : Calls Try.prog 29 #[v1, v2] w fun e w' => e = .returned (.bool (sameT x y)) ∧ Below w.heap.size w w' := by
  obtain ⟨p, cp, rfl, a1, a2, ha⟩ := h1
  obtain ⟨q, cq, rfl, b1, b2, hb⟩ := h2
  have HA := Lib.hid ha; have HBB := Lib.hid hb
  obtain ⟨N, hN⟩ : ∃ N, x.length = N := ⟨_, rfl⟩
  obtain ⟨M, hM⟩ : ∃ M, y.length = M := ⟨_, rfl⟩
  rw [hN] at a1; rw [hM] at b1; rw [hN, hM]
  have hlc : (N : Int) ≤ 9223372036854775807 := by unfold maxLen at a2; omega
  have hld : (M : Int) ≤ 9223372036854775807 := by unfold maxLen at b2; omega
  have HN := Lib.hid hN; have HM := Lib.hid hM
  clear ha hb hN hM a1 a2 b1 b2
  by_cases hNM : N = M
  case neg =>
    have hne : ((N : Int) != (M : Int)) = true := by rw [bne_iff_ne]; omega
    have HF := Lib.hid (show sameT x y = false by
      unfold sameT; rw [decide_eq_false_iff_not]; intro h; exact hNM (by rw [← HN.out, ← HM.out, h]))
    clear hNM
    go_enter Try.func29, Try.ntmps29
    go_wp2_with fail
    go_ret
    exact ⟨retB HF.out.symm, Below.refl _ _⟩
  subst hNM
  have hne : ((N : Int) != (N : Int)) = false := by simp
  go_enter Try.func29, Try.ntmps29
  go_wp2_with fail
  go_loopw [5] (fun i wr => ∃ k : Nat, k ≤ N ∧ i = .int .i64 k ∧ (∀ (j : Nat), j < k → x[j]? = y[j]?) ∧ Below w.heap.size w wr) (fun i _ => N - (intOf i).toNat)
  case atStart => exact ⟨0, Nat.zero_le _, rfl, fun j hj => by omega, Below.refl _ _⟩
  case round =>
    obtain ⟨k, hk, rfl, hall, hb⟩ := hrel
    have HAL := Lib.hid hall; have HB := Lib.hid hb
    clear hall hb
    by_cases hlt : k < N
    case neg =>
      obtain rfl : k = N := by omega
      have HF := Lib.hid (show sameT x y = true by
        unfold sameT; rw [decide_eq_true_eq]
        apply List.ext_getElem?; intro j
        by_cases hj : j < k
        · exact HAL.out j hj
        · rw [List.getElem?_eq_none (by rw [HN.out]; omega), List.getElem?_eq_none (by rw [HM.out]; omega)])
      go_wp2_with fail
      go_ret
      exact ⟨retB HF.out.symm, HB.out⟩
    have hki : (k : Int) < (N : Int) := by omega
    obtain ⟨⟨sa, sb, sc, sd⟩, hs⟩ : ∃ s, x[k]? = some s := ⟨_, List.getElem?_eq_getElem (by rw [HN.out]; omega)⟩
    obtain ⟨⟨ta, tb, tc, td⟩, ht⟩ : ∃ t, y[k]? = some t := ⟨_, List.getElem?_eq_getElem (by rw [HM.out]; omega)⟩
    obtain ⟨g, o, rfl, x1⟩ := HA.out k _ hs
    obtain ⟨g', o', rfl, y1⟩ := HBB.out k _ ht
    obtain ⟨r0, r1, r2, r3⟩ := x1.keep (keeps_below HB.out)
    obtain ⟨q0, q1, q2, q3⟩ := y1.keep (keeps_below HB.out)
    simp only at r0 r1 r2 r3 q0 q1 q2 q3
    have HS := Lib.hid hs; have HT := Lib.hid ht
    clear hs ht x1 y1
    by_cases hst : ((sa, sb, sc, sd) : UseD) = (ta, tb, tc, td)
    · injection hst with e1 hst; injection hst with e2 hst; injection hst with e3 e4
      subst e1; subst e2; subst e3; subst e4
      have b1 : (sa == sa) = true := by simp
      have b2 : (sb == sb) = true := by simp
      have b3 : (sc == sc) = true := by simp
      have b4 : (sd == sd) = true := by simp
      go_wp2_with fail
      go_quiet (fail)
      go_wp2_with fail
      go_roundw
      case rel =>
        refine ⟨k + 1, by omega, by go_num, fun j hj => ?_, below_drewN' HB.out _⟩
        by_cases e : j = k
        · subst e; rw [HS.out, HT.out]
        · exact HAL.out j (by omega)
      case measure => simp [intOf]; omega
    · have HF := Lib.hid (show sameT x y = false by
        unfold sameT; rw [decide_eq_false_iff_not]; intro h; subst h; exact hst (by have := HS.out; rw [HT.out] at this; injection this with this; exact this.symm))
      have hc : ((sa == ta) = false) ∨ ((sa == ta) = true ∧ (sb == tb) = false) ∨ ((sa == ta) = true ∧ (sb == tb) = true ∧ (sc == tc) = false) ∨ ((sa == ta) = true ∧ (sb == tb) = true ∧ (sc == tc) = true ∧ (sd == td) = false) := by
        by_cases e1 : sa = ta
        · by_cases e2 : sb = tb
          · by_cases e3 : sc = tc
            · by_cases e4 : sd = td
              · exact absurd (by rw [e1, e2, e3, e4]) hst
              · exact .inr (.inr (.inr ⟨by simpa using e1, by simpa using e2, by simpa using e3, by simpa using e4⟩))
            · exact .inr (.inr (.inl ⟨by simpa using e1, by simpa using e2, by simpa using e3⟩))
          · exact .inr (.inl ⟨by simpa using e1, by simpa using e2⟩)
        · exact .inl (by simpa using e1)
      clear hst
      rcases hc with h1 | ⟨h1, h2⟩ | ⟨h1, h2, h3⟩ | ⟨h1, h2, h3, h4⟩
      all_goals
        go_wp2_with fail
        go_quiet (fail)
        go_wp2_with fail
        go_ret
        exact ⟨retB HF.out.symm, below_drewN' HB.out _⟩

def sameTT (a b : List (List UseD)) : Bool := decide (a = b)
set_option maxRecDepth 100000 in
set_option maxHeartbeats 2000000 in
theorem rsame17_any (x y : List (List UseD)) (v1 v2 : Value) (w : World) (h1 : TabsAt w v1 x) (h2 : TabsAt w v2 y) : Calls Try.prog 17 #[v1, v2] w fun e w' => e = .returned (.bool (sameTT x y)) ∧ Below w.heap.size w w' := by
  obtain ⟨p, cp, rfl, a1, a2, ha⟩ := h1
  obtain ⟨q, cq, rfl, b1, b2, hb⟩ := h2
  have HA := Lib.hid ha; have HBB := Lib.hid hb
  obtain ⟨N, hN⟩ : ∃ N, x.length = N := ⟨_, rfl⟩
  obtain ⟨M, hM⟩ : ∃ M, y.length = M := ⟨_, rfl⟩
  rw [hN] at a1; rw [hM] at b1; rw [hN, hM]
  have hlc : (N : Int) ≤ 9223372036854775807 := by unfold maxLen at a2; omega
  have hld : (M : Int) ≤ 9223372036854775807 := by unfold maxLen at b2; omega
  have HN := Lib.hid hN; have HM := Lib.hid hM
  clear ha hb hN hM a1 a2 b1 b2
  by_cases hNM : N = M
  case neg =>
    have hne : ((N : Int) != (M : Int)) = true := by rw [bne_iff_ne]; omega
    have HF := Lib.hid (show sameTT x y = false by
      unfold sameTT; rw [decide_eq_false_iff_not]; intro h; exact hNM (by rw [← HN.out, ← HM.out, h]))
    clear hNM
    go_enter Try.func17, Try.ntmps17
    go_wp2_with fail
    go_ret
    exact ⟨retB HF.out.symm, Below.refl _ _⟩
  subst hNM
  have hne : ((N : Int) != (N : Int)) = false := by simp
  go_enter Try.func17, Try.ntmps17
  go_wp2_with fail
  go_loopw [5] (fun i wr => ∃ k : Nat, k ≤ N ∧ i = .int .i64 k ∧ (∀ (j : Nat), j < k → x[j]? = y[j]?) ∧ Below w.heap.size w wr) (fun i _ => N - (intOf i).toNat)
  case atStart => exact ⟨0, Nat.zero_le _, rfl, fun j hj => by omega, Below.refl _ _⟩
  case round =>
    obtain ⟨k, hk, rfl, hall, hb⟩ := hrel
    have HAL := Lib.hid hall; have HB := Lib.hid hb
    clear hall hb
    by_cases hlt : k < N
    case neg =>
      obtain rfl : k = N := by omega
      have HF := Lib.hid (show sameTT x y = true by
        unfold sameTT; rw [decide_eq_true_eq]
        apply List.ext_getElem?; intro j
        by_cases hj : j < k
        · exact HAL.out j hj
        · rw [List.getElem?_eq_none (by rw [HN.out]; omega), List.getElem?_eq_none (by rw [HM.out]; omega)])
      go_wp2_with fail
      go_ret
      exact ⟨retB HF.out.symm, HB.out⟩
    have hki : (k : Int) < (N : Int) := by omega
    obtain ⟨s, hs⟩ : ∃ s, x[k]? = some s := ⟨_, List.getElem?_eq_getElem (by rw [HN.out]; omega)⟩
    obtain ⟨t, ht⟩ : ∃ t, y[k]? = some t := ⟨_, List.getElem?_eq_getElem (by rw [HM.out]; omega)⟩
    obtain ⟨g, o, u1, rfl, x1, x2⟩ := HA.out k _ hs
    obtain ⟨g', o', u2, rfl, y1, y2⟩ := HBB.out k _ ht
    obtain ⟨pu, cu, rfl, _⟩ := id x2
    obtain ⟨pt, ct, rfl, _⟩ := id y2
    have r0 := cell_stays ((Below.refl _ _).drew) (cell_stays HB.out x1)
    have q0 := cell_stays ((Below.refl _ _).drew) (cell_stays HB.out y1)
    have HX := Lib.hid ((x2.keep (keeps_below HB.out)).keep (keeps_below (Below.refl _ _).drew)); have HY := Lib.hid ((y2.keep (keeps_below HB.out)).keep (keeps_below (Below.refl _ _).drew))
    have HS := Lib.hid hs; have HT := Lib.hid ht
    clear hs ht x1 y1 x2 y2
    obtain ⟨bb, hbb⟩ : ∃ bb, sameT s t = bb := ⟨_, rfl⟩
    have HBE := Lib.hid hbb; clear hbb
    go_wp2_with fail
    go_region_held3 (fun w' => w'.cell? ⟨g, o + k, none⟩ = some (.slice pu s.length cu) ∧ w'.cell? ⟨g', o' + k, none⟩ = some (.slice pt t.length ct))
      (first | exact ⟨r0, q0⟩ | exact HSA.out)
      (((with_reducible refine (rsame14_any s t _ _ _ HX.out HY.out).mono ?_); rintro e w1 ⟨rfl, hb⟩; rw [HBE.out]; have HB1 := Lib.hid (btrans HB.out.drew hb); have HSA := Lib.hid (show _ ∧ _ from ⟨cell_stays hb r0, cell_stays hb q0⟩); clear hb))
    clear r0 q0
    cases bb with
    | true =>
      go_wp2_with fail
      go_roundw
      case rel =>
        refine ⟨k + 1, by omega, by go_num, fun j hj => ?_, HB1.out⟩
        by_cases e : j = k
        · subst e; rw [HS.out, HT.out]; have := HBE.out; unfold sameT at this; rw [of_decide_eq_true this]
        · exact HAL.out j (by omega)
      case measure => simp [intOf]; omega
    | false =>
      have HF := Lib.hid (show sameTT x y = false by
        unfold sameTT; rw [decide_eq_false_iff_not]; intro h; subst h
        have h1 := HS.out; rw [HT.out] at h1; injection h1 with h1; subst h1
        have := HBE.out; unfold sameT at this; simp at this)
      go_wp2_with fail
      go_ret
      exact ⟨retB HF.out.symm, HB1.out⟩
end Go.Proofs.Ytpcmihgfcaelfaa
namespace Go.Proofs.Ytpcmihgfcaelfaa
open Go.RowKit

theorem use_bad {a b c en : Int} {d : Bool} (h : ¬ (useOk (a, b, c, d) = true ∧ en ≤ a)) (h0 : 0 ≤ en) : (b < 1) ∨ (¬ b < 1 ∧ 8 < b) ∨ (¬ b < 1 ∧ ¬ 8 < b ∧ a < en) ∨ (¬ b < 1 ∧ ¬ 8 < b ∧ ¬ a < en ∧ 16 - b < a) ∨ (¬ b < 1 ∧ ¬ 8 < b ∧ ¬ a < en ∧ ¬ 16 - b < a ∧ c < 0) ∨ (¬ b < 1 ∧ ¬ 8 < b ∧ ¬ a < en ∧ ¬ 16 - b < a ∧ ¬ c < 0 ∧ 1000000 < c) ∨ (¬ b < 1 ∧ ¬ 8 < b ∧ ¬ a < en ∧ ¬ 16 - b < a ∧ c = 0 ∧ d = false) := by
  unfold useOk at h
  simp only [decide_eq_true_eq] at h
  cases d
  · simp only [Bool.false_eq_true, imp_false, and_true] at h ⊢; omega
  · simp only [implies_true, and_true, Bool.true_eq_false, and_false, or_false] at h ⊢; omega
theorem use_good {a b c en : Int} {d : Bool} (h : useOk (a, b, c, d) = true ∧ en ≤ a) : ¬ b < 1 ∧ ¬ 8 < b ∧ ¬ a < en ∧ ¬ 16 - b < a ∧ ¬ c < 0 ∧ ¬ 1000000 < c ∧ ((c == 0) = false ∨ c = 0 ∧ d = true) ∧ 0 ≤ a ∧ a + b ≤ 16 := by
  unfold useOk at h
  simp only [decide_eq_true_eq] at h
  refine ⟨by omega, by omega, by omega, by omega, by omega, by omega, ?_, by omega, by omega⟩
  by_cases e : c = 0
  · exact .inr ⟨e, h.1.2.2.2.2.2.2 e⟩
  · exact .inl (by simpa using e)
theorem wrap_in {x : Int} (h : -1000000000 ≤ x) (h2 : x ≤ 1000000000) : wrap64 x = x := by unfold wrap64; omega
set_option maxRecDepth 100000 in
set_option maxHeartbeats 4000000 in
theorem sMay_any (l : List UseD) (v1 : Value) (w : World) (h1 : UsesAt w v1 l) : Calls Try.prog 39 #[v1] w fun e w' => e = .returned (.bool (mayT l)) ∧ Below w.heap.size w w' := by
  obtain ⟨p, cp, rfl, a1, a2, ha⟩ := h1
  have HA := Lib.hid ha
  obtain ⟨N, hN⟩ : ∃ N, l.length = N := ⟨_, rfl⟩
  rw [hN] at a1; rw [hN]
  have hlc : (N : Int) ≤ 9223372036854775807 := by unfold maxLen at a2; omega
  have HN := Lib.hid hN
  clear ha hN a1 a2
  go_enter Try.func39, Try.ntmps39
  go_wp2_with fail
  go_loopw [8, 3] (fun i e wr => ∃ (k : Nat) (en : Int), k ≤ N ∧ i = .int .i64 k ∧ e = .int .i64 en ∧ 0 ≤ en ∧ mayT l = mayG en (l.drop k) ∧ Below w.heap.size w wr) (fun i _ _ => N - (intOf i).toNat)
  case atStart => exact ⟨0, 0, Nat.zero_le _, rfl, rfl, Int.le_refl _, by rw [List.drop_zero]; rfl, Below.refl _ _⟩
  case round =>
    obtain ⟨k, en, hk, rfl, rfl, h0, hall, hb⟩ := hrel
    have HAL := Lib.hid hall; have HB := Lib.hid hb
    clear hall hb
    by_cases hlt : k < N
    case neg =>
      obtain rfl : k = N := by omega
      have HF := Lib.hid (show mayT l = true by rw [HAL.out, mayG_end (by rw [HN.out]; exact Nat.le_refl _)])
      go_wp2_with fail
      go_ret
      exact ⟨retB HF.out.symm, HB.out⟩
    have hki : (k : Int) < (N : Int) := by omega
    obtain ⟨⟨a, b, c, d⟩, hs⟩ : ∃ s, l[k]? = some s := ⟨_, List.getElem?_eq_getElem (by rw [HN.out]; omega)⟩
    obtain ⟨g, o, rfl, x1⟩ := HA.out k _ hs
    obtain ⟨r0, r1, r2, r3⟩ := x1.keep (keeps_below HB.out)
    simp only at r0 r1 r2 r3
    have HS := Lib.hid hs
    clear hs x1
    by_cases hgood : useOk (a, b, c, d) = true ∧ en ≤ a
    case neg =>
      have HF := Lib.hid (show mayT l = false by rw [HAL.out]; exact mayG_bad HS.out hgood)
      have hc := use_bad hgood h0
      clear hgood
      have hwr : 1 ≤ b → b ≤ 8 → wrap64 (16 - b) = 16 - b := fun _ _ => wrap_in (by omega) (by omega)
      have HW := Lib.hid hwr; clear hwr
      rcases hc with g1 | ⟨g1, g2⟩ | ⟨g1, g2, g3⟩ | ⟨g1, g2, g3, g4⟩ | ⟨g1, g2, g3, g4, g5⟩ | ⟨g1, g2, g3, g4, g5, g6⟩ | ⟨g1, g2, g3, g4, rfl, rfl⟩
      all_goals
        try have hw := HW.out (by omega) (by omega)
        go_wp2_with fail
        go_ret
        exact ⟨retB HF.out.symm, HB.out.alloc HB.out.size _⟩
    case pos =>
      have HF := Lib.hid (mayG_ok HS.out hgood.1 hgood.2)
      obtain ⟨g1, g2, g3, g4, g5, g6, hc, g8, g9⟩ := use_good hgood
      clear hgood
      have hw : wrap64 (16 - b) = 16 - b := wrap_in (by omega) (by omega)
      have hw2 : wrap64 (a + b) = a + b := wrap_in (by omega) (by omega)
      have HE := Lib.hid (show 0 ≤ a + b by omega)
      clear h0 g8 g9
      rcases hc with g7 | ⟨rfl, rfl⟩
      all_goals
        go_wp2_with fail
        go_roundw
        case rel => exact ⟨k + 1, a + b, by omega, by go_num, by go_num, HE.out, by rw [HAL.out, HF.out], HB.out.alloc HB.out.size _⟩
        case measure => simp [intOf]; omega
theorem use_badR {a b c : Int} {d : Bool} (h : ¬ useOk (a, b, c, d) = true) : (b < 1) ∨ (¬ b < 1 ∧ 8 < b) ∨ (¬ b < 1 ∧ ¬ 8 < b ∧ a < 0) ∨ (¬ b < 1 ∧ ¬ 8 < b ∧ ¬ a < 0 ∧ 16 < a) ∨ (¬ b < 1 ∧ ¬ 8 < b ∧ ¬ a < 0 ∧ ¬ 16 < a ∧ 16 < a + b) ∨ (¬ b < 1 ∧ ¬ 8 < b ∧ ¬ a < 0 ∧ ¬ 16 < a ∧ ¬ 16 < a + b ∧ c < 0) ∨ (¬ b < 1 ∧ ¬ 8 < b ∧ ¬ a < 0 ∧ ¬ 16 < a ∧ ¬ 16 < a + b ∧ ¬ c < 0 ∧ 1000000 < c) ∨ (¬ b < 1 ∧ ¬ 8 < b ∧ ¬ a < 0 ∧ ¬ 16 < a ∧ ¬ 16 < a + b ∧ c = 0 ∧ d = false) := by
  unfold useOk at h
  simp only [decide_eq_true_eq] at h
  cases d
  · simp only [Bool.false_eq_true, imp_false, and_true] at h ⊢; omega
  · simp only [implies_true, and_true, Bool.true_eq_false, and_false, or_false] at h ⊢; omega
theorem use_goodR {a b c : Int} {d : Bool} (h : useOk (a, b, c, d) = true) : ¬ b < 1 ∧ ¬ 8 < b ∧ ¬ a < 0 ∧ ¬ 16 < a ∧ ¬ 16 < a + b ∧ ¬ c < 0 ∧ ¬ 1000000 < c ∧ ((c == 0) = false ∨ c = 0 ∧ d = true) := by
  unfold useOk at h
  simp only [decide_eq_true_eq] at h
  refine ⟨by omega, by omega, by omega, by omega, by omega, by omega, by omega, ?_⟩
  by_cases e : c = 0
  · exact .inr ⟨e, h.2.2.2.2.2.2 e⟩
  · exact .inl (by simpa using e)
def RmPrev (l : List UseD) (k : Nat) (en : Int) : Prop := (k = 0 ∧ en = 0) ∨ ∃ m ta tb tc td, k = m + 1 ∧ l[m]? = some (ta, tb, tc, td) ∧ en = ta + tb ∧ 0 ≤ ta ∧ 1 ≤ tb ∧ ta + tb ≤ 16
set_option maxRecDepth 100000 in
set_option maxHeartbeats 4000000 in
theorem rmay14_any (l : List UseD) (v1 : Value) (w : World) (h1 : UsesAt w v1 l) : Calls Try.prog 43 #[v1] w fun e w' => e = .returned (.bool (mayT l)) ∧ Below w.heap.size w w' := by
  obtain ⟨p, cp, rfl, a1, a2, ha⟩ := h1
  have HA := Lib.hid ha
  obtain ⟨N, hN⟩ : ∃ N, l.length = N := ⟨_, rfl⟩
  rw [hN] at a1; rw [hN]
  have hlc : (N : Int) ≤ 9223372036854775807 := by unfold maxLen at a2; omega
  have HN := Lib.hid hN
  clear ha hN a1 a2
  go_enter Try.func43, Try.ntmps43
  go_wp2_with fail
  go_loopw [3] (fun i wr => ∃ (k : Nat) (en : Int), k ≤ N ∧ i = .int .i64 k ∧ RmPrev l k en ∧ mayT l = mayG en (l.drop k) ∧ Below w.heap.size w wr) (fun i _ => N - (intOf i).toNat)
  case atStart => exact ⟨0, 0, Nat.zero_le _, rfl, .inl ⟨rfl, rfl⟩, by rw [List.drop_zero]; rfl, Below.refl _ _⟩
  case round =>
    obtain ⟨k, en, hk, rfl, hprev, hall, hb⟩ := hrel
    have HAL := Lib.hid hall; have HB := Lib.hid hb; have HPV := Lib.hid hprev
    clear hall hb hprev
    by_cases hlt : k < N
    case neg =>
      obtain rfl : k = N := by omega
      have HF := Lib.hid (show mayT l = true by rw [HAL.out, mayG_end (by rw [HN.out]; exact Nat.le_refl _)])
      go_wp2_with fail
      go_ret
      exact ⟨retB HF.out.symm, HB.out⟩
    have hki : (k : Int) < (N : Int) := by omega
    obtain ⟨⟨a, b, c, d⟩, hs⟩ : ∃ s, l[k]? = some s := ⟨_, List.getElem?_eq_getElem (by rw [HN.out]; omega)⟩
    obtain ⟨g, o, rfl, x1⟩ := HA.out k _ hs
    obtain ⟨r0, r1, r2, r3⟩ := x1.keep (keeps_below HB.out)
    simp only at r0 r1 r2 r3
    have HS := Lib.hid hs
    clear hs x1
    by_cases hgood : useOk (a, b, c, d) = true
    case neg =>
      have HF := Lib.hid (show mayT l = false by rw [HAL.out]; exact mayG_bad HS.out (fun h => hgood h.1))
      have hc := use_badR hgood
      clear hgood
      have hwr : ¬ a < 0 → ¬ 16 < a → ¬ b < 1 → ¬ 8 < b → wrap64 (a + b) = a + b := fun _ _ _ _ => wrap_in (by omega) (by omega)
      have HW := Lib.hid hwr; clear hwr
      rcases hc with g1 | ⟨g1, g2⟩ | ⟨g1, g2, g3⟩ | ⟨g1, g2, g3, g4⟩ | ⟨g1, g2, g3, g4, g5⟩ | ⟨g1, g2, g3, g4, g5, g6⟩ | ⟨g1, g2, g3, g4, g5, g6, g7⟩ | ⟨g1, g2, g3, g4, g5, rfl, rfl⟩
      all_goals
        try have hw := HW.out g3 g4 g1 g2
        go_wp2_with fail
        go_ret
        exact ⟨retB HF.out.symm, HB.out.alloc HB.out.size _⟩
    case pos =>
      obtain ⟨g1, g2, g3, g4, g5, g6, g7, hc⟩ := use_goodR hgood
      have hw : wrap64 (a + b) = a + b := wrap_in (by omega) (by omega)
      have HP2 := Lib.hid (show RmPrev l (k + 1) (a + b) from .inr ⟨k, a, b, c, d, rfl, HS.out, rfl, by omega, by omega, by omega⟩)
      have HG := Lib.hid hgood
      clear hgood
      have hb1 : Below wr.heap.size wr (wr.alloc (.cells #[.int .i64 a, .int .i64 b, .int .i64 c, .bool d] 37)) := (Below.refl _ _).alloc (Nat.le_refl _) _
      obtain ⟨W1, hW1⟩ : ∃ W1, wr.alloc (.cells #[.int .i64 a, .int .i64 b, .int .i64 c, .bool d] 37) = W1 := ⟨_, rfl⟩
      have x0 : W1.cell? ⟨wr.heap.size, 0, none⟩ = some (.int .i64 a) := by rw [← hW1]; simp
      rw [hW1] at hb1
      have HB1 := Lib.hid hb1; have HX0 := Lib.hid x0; have HW1 := Lib.hid hW1
      have HBB := Lib.hid (btrans HB.out hb1)
      clear hW1 hb1 x0
      rcases hc with g8 | ⟨rfl, rfl⟩
      all_goals
        go_upto_region 7 with fail
        rw [HW1.out]
        clear r0 r1 r2 r3 g1 g2 g3 g4 g5 g6 g7 hw
        have x0 := HX0.out
        have hlx := World.block_lt_of_cell? _ _ x0
        rcases HPV.out with ⟨rfl, rfl⟩ | ⟨m, ta, tb, tc, td, rfl, hm, rfl, t1, t2, t3⟩
        · have hg3 : decide (0 < 0) = false := rfl
          have HF := Lib.hid (mayG_ok HS.out HG.out (show (0 : Int) ≤ a by have := HG.out; unfold useOk at this; simp only [decide_eq_true_eq] at this; omega))
          go_quiet (fail)
          go_wp2_with fail
          go_roundw
          case rel => exact ⟨0 + 1, a + b, by omega, by go_num, HP2.out, by rw [HAL.out, HF.out], below_drewN' HBB.out _⟩
          case measure => simp [intOf]; omega
        · obtain ⟨g', o', e, f1⟩ := HA.out m _ hm
          cases e
          obtain ⟨y0, y1, _, _⟩ := (f1.keep (keeps_below HB.out)).keep (keeps_below HB1.out)
          simp only at y0 y1
          have e5 : IntKind.i64.wrap (((m + 1 : Nat) : Int) - 1) = (m : Int) := by rw [IntKind.wrap_i64]; omega
          have e6 : (m : Int) < (N : Int) := by omega
          have e7 : IntKind.i64.wrap (ta + tb) = ta + tb := by rw [IntKind.wrap_i64]; omega
          have hg3 : decide (0 < m + 1) = true := decide_eq_true (by omega)
          by_cases hle : ta + tb ≤ a
          · have HF := Lib.hid (mayG_ok HS.out HG.out hle)
            have hdi : decide (a < ta + tb) = false := decide_eq_false (by omega)
            clear hm f1 t1 t2 t3 hle
            go_quiet (fail)
            go_wp2_with fail
            go_roundw
            case rel => exact ⟨m + 1 + 1, a + b, by omega, by go_num, HP2.out, by rw [HAL.out, HF.out], below_drewN' HBB.out _⟩
            case measure => simp [intOf]; omega
          · have HF := Lib.hid (show mayT l = false by rw [HAL.out]; exact mayG_bad HS.out (fun h => hle h.2))
            have hdi : decide (a < ta + tb) = true := decide_eq_true (by omega)
            clear hm f1 t1 t2 t3 hle
            go_quiet (fail)
            go_wp2_with fail
            go_ret
            exact ⟨retB HF.out.symm, below_drewN' HBB.out _⟩
def mayTT (c : List (List UseD)) : Bool := c.all mayT && decide (1 ≤ c.length ∧ c.length ≤ 1000)
set_option maxRecDepth 100000 in
set_option maxHeartbeats 2000000 in
theorem rmay17_any (x : List (List UseD)) (v1 : Value) (w : World) (h1 : TabsAt w v1 x) : Calls Try.prog 20 #[v1] w fun e w' => e = .returned (.bool (mayTT x)) ∧ Below w.heap.size w w' := by
  obtain ⟨p, cp, rfl, a1, a2, ha⟩ := h1
  have HA := Lib.hid ha
  obtain ⟨N, hN⟩ : ∃ N, x.length = N := ⟨_, rfl⟩
  rw [hN] at a1; rw [hN]
  have hlc : (N : Int) ≤ 9223372036854775807 := by unfold maxLen at a2; omega
  have HN := Lib.hid hN
  clear ha hN a1 a2
  go_enter Try.func20, Try.ntmps20
  go_wp2_with fail
  go_loopw [3] (fun i wr => ∃ k : Nat, k ≤ N ∧ i = .int .i64 k ∧ (∀ (j : Nat) t, j < k → x[j]? = some t → mayT t = true) ∧ Below w.heap.size w wr) (fun i _ => N - (intOf i).toNat)
  case atStart => exact ⟨0, Nat.zero_le _, rfl, fun j _ hj => by omega, Below.refl _ _⟩
  case round =>
    obtain ⟨k, hk, rfl, hall, hb⟩ := hrel
    have HAL := Lib.hid hall; have HB := Lib.hid hb
    clear hall hb
    by_cases hlt : k < N
    case neg =>
      obtain rfl : k = N := by omega
      have HF := Lib.hid (show mayTT x = decide (1 ≤ k ∧ k ≤ 1000) by
        unfold mayTT
        rw [show x.all mayT = true from List.all_eq_true.2 fun t ht => by
          obtain ⟨j, hj⟩ := List.getElem?_of_mem ht
          exact HAL.out j t (by have := (List.getElem?_eq_some_iff.1 hj).1; rw [HN.out] at this; exact this) hj, HN.out, Bool.true_and])
      have hc : ¬ (1 : Int) ≤ (k : Int) ∨ ((1 : Int) ≤ (k : Int) ∧ (k : Int) ≤ 1000) ∨ ((1 : Int) ≤ (k : Int) ∧ ¬ (k : Int) ≤ 1000) := by omega
      rcases hc with c1 | ⟨c1, c2⟩ | ⟨c1, c2⟩
      all_goals
        have HC := Lib.hid c1
        try have HC2 := Lib.hid c2
        go_wp2_with fail
        go_ret
        refine ⟨retB ?_, HB.out⟩
        rw [HF.out]
      · exact (decide_eq_false (by have := HC.out; omega)).symm
      · exact (decide_eq_true (by have := HC.out; have := HC2.out; omega)).symm
      · exact (decide_eq_false (by have := HC2.out; omega)).symm
    have hki : (k : Int) < (N : Int) := by omega
    obtain ⟨s, hs⟩ : ∃ s, x[k]? = some s := ⟨_, List.getElem?_eq_getElem (by rw [HN.out]; omega)⟩
    obtain ⟨g, o, u1, rfl, x1, x2⟩ := HA.out k _ hs
    obtain ⟨pu, cu, rfl, _⟩ := id x2
    have r0 := cell_stays HB.out x1
    have HX := Lib.hid (x2.keep (keeps_below HB.out))
    have HS := Lib.hid hs
    clear hs x1 x2
    obtain ⟨bb, hbb⟩ : ∃ bb, mayT s = bb := ⟨_, rfl⟩
    have HBE := Lib.hid hbb; clear hbb
    go_wp2_with fail
    refine (rmay14_any s _ _ HX.out).mono ?_
    rintro e w1 ⟨rfl, hb⟩
    rw [HBE.out]
    have HB1 := Lib.hid (btrans HB.out hb)
    clear hb r0
    cases bb with
    | true =>
      go_wp2_with fail
      go_roundw
      case rel =>
        refine ⟨k + 1, by omega, by go_num, fun j t hj ht => ?_, HB1.out⟩
        by_cases e : j = k
        · subst e; rw [HS.out] at ht; cases ht; exact HBE.out
        · exact HAL.out j t (by omega) ht
      case measure => simp [intOf]; omega
    | false =>
      have HF := Lib.hid (show mayTT x = false by
        unfold mayTT
        rw [show x.all mayT = false from by rw [← Bool.not_eq_true, List.all_eq_true]; intro h; have := h s (List.mem_of_getElem? HS.out); rw [HBE.out] at this; simp at this]; rfl)
      go_wp2_with fail
      go_ret
      exact ⟨retB HF.out.symm, HB1.out⟩
end Go.Proofs.Ytpcmihgfcaelfaa
