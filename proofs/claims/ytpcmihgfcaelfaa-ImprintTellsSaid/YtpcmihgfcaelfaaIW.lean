/- Both readings of a text, in one form. · The walk of ImprintTells, given what the reference's Tables does. · The walk of the reference's Tables (layer 20). -/
import Derived.Test.YtpcmihgfcaelfaaIV
import Derived.Test.YtpcmihgfcaelfaaIO
import Derived.Test.YtpcmihgfcaelfaaIN
import Derived.Test.YtpcmihgfcaelfaaID
import Derived.Test.YtpcmihgfcaelfaaIG
import Derived.Test.YtpcmihgfcaelfaaIB
namespace Go.Proofs.Ytpcmihgfcaelfaa
open Go.RowKit

/-- a text of volumes that may be -/
def GoodS (s : List UInt8) : Prop := ∃ L x, readQ s = some L ∧ RvAll x L ∧ mayVB x = true
def RdPost (s : ByteArray) (w : World) (e : Ending) (w' : World) : Prop := Below w.heap.size w w' ∧ ((∃ L x v, readQ s.data.toList = some L ∧ RvAll x L ∧ mayVB x = true ∧ SmallTrees x ∧ e = .returned (.tuple #[v, .bool true]) ∧ VolsAt w' v x) ∨ (¬ GoodS s.data.toList ∧ e = .returned (.tuple #[.slice none 0 0, .bool false])))
theorem rv_swap {x y : List VoD} {L : List RvD} (hx : RvAll x L) (hy : RvAll y L) (hm : mayVB y = true) : mayVB x = true :=
  rv_may (by rw [rvs_of hy]; exact hx) hm
theorem read_p (s : ByteArray) (hs : s.size ≤ 2000) (w : World) : Calls Try.prog 10 #[.string s] w (RdPost s w) := by
  have hl : s.data.toList.length = s.size := by simp
  refine (pRead_any s (by omega) (fun L hL v hv => by have := readQ_few hL v hv; omega) w).mono ?_
  intro e w' he
  unfold PreadPost at he
  cases hq : readQ s.data.toList with
  | none => rw [hq] at he; exact ⟨he.2, .inr ⟨fun ⟨L, x, h, _⟩ => (by rw [hq] at h; cases h), he.1⟩⟩
  | some L =>
    rw [hq] at he
    obtain ⟨x, hx, hb, ⟨hm, v, rfl, hv⟩ | ⟨hm, rfl⟩⟩ := he
    · exact ⟨hb, .inl ⟨L, x, v, hq, hx, hm, hx.small (fun v hv => by have := readQ_few hq v hv; omega), rfl, hv⟩⟩
    · refine ⟨hb, .inr ⟨fun ⟨L2, x2, h, h2, h3⟩ => ?_, rfl⟩⟩
      rw [hq] at h; cases h
      rw [rv_swap hx h2 h3] at hm; exact absurd hm (by simp)
theorem read_r (s : ByteArray) (hs : s.size ≤ 2000) (w : World) : Calls Try.prog 11 #[.string s] w (RdPost s w) := by
  have hl : s.data.toList.length = s.size := by simp
  refine (rRead_any s hs w).mono ?_
  intro e w' he
  unfold RreadPost at he
  obtain ⟨hb, he⟩ := he
  refine ⟨hb, ?_⟩
  cases hq : readRQ s.data.toList with
  | none =>
    rw [hq] at he
    exact .inr ⟨fun ⟨L, x, h, _⟩ => (by rw [readRQ_of h] at hq; cases hq), he⟩
  | some L =>
    rw [hq] at he
    obtain ⟨x, hx, ⟨hm, ht, v, rfl, hv⟩ | ⟨hm, rfl⟩⟩ := he
    · have hs2 := hx.small (fun v hv => by have := readRQ_few hq v hv; omega)
      exact .inl ⟨L, x, v, read_same hq hx hm ht hs2, hx, hm, hs2, rfl, hv⟩
    · refine .inr ⟨fun ⟨L2, x2, h, h2, h3⟩ => hm ?_, rfl⟩
      have h4 := readRQ_of h
      rw [hq] at h4; cases h4
      have h5 := rv_swap hx h2 h3
      exact ⟨h5, text_read h hx h5⟩
end Go.Proofs.Ytpcmihgfcaelfaa
namespace Go.Proofs.Ytpcmihgfcaelfaa
open Go.RowKit

def RdU (s : ByteArray) (w : World) (e : Ending) (w' : World) : Prop := Below w.heap.size w w' ∧ ∃ ok x v, e = .returned (.tuple #[v, .bool ok]) ∧ VolsAt w' v x ∧ SmallTrees x ∧ ((ok = true ∧ ∃ L, readQ s.data.toList = some L ∧ RvAll x L ∧ mayVB x = true) ∨ (ok = false ∧ x = [] ∧ ¬ GoodS s.data.toList))
theorem RdPost.u {s : ByteArray} {w w' : World} {e : Ending} (h : RdPost s w e w') : RdU s w e w' := by
  obtain ⟨hb, ⟨L, x, v, h1, h2, h3, h4, h5, h6⟩ | ⟨h1, h2⟩⟩ := h
  · exact ⟨hb, true, x, v, h5, h6, h4, .inl ⟨rfl, L, h1, h2, h3⟩⟩
  · exact ⟨hb, false, [], _, h2, vols_nil _, fun d hd => by simp at hd, .inr ⟨rfl, rfl, h1⟩⟩
def RdIs (s : List UInt8) (ok : Bool) (x : List VoD) : Prop := (ok = true ∧ ∃ L, readQ s = some L ∧ RvAll x L ∧ mayVB x = true) ∨ (ok = false ∧ x = [] ∧ ¬ GoodS s)
theorem RdIs.same {s : List UInt8} {p q : Bool} {x y : List VoD} (h : RdIs s p x) (k : RdIs s q y) : p = q ∧ sameVs x y = true := by
  rcases h with ⟨h1, L, h2, h3, h4⟩ | ⟨h1, h2, h3⟩
  · rcases k with ⟨k1, M, k2, k3, k4⟩ | ⟨k1, k2, k3⟩
    · rw [h2] at k2; cases k2
      exact ⟨by rw [h1, k1], same_rvs.2 (by rw [rvs_of h3, rvs_of k3])⟩
    · exact absurd ⟨L, x, h2, h3, h4⟩ k3
  · rcases k with ⟨k1, M, k2, k3, k4⟩ | ⟨k1, k2, k3⟩
    · exact absurd ⟨M, y, k2, k3, k4⟩ h3
    · exact ⟨by rw [h1, k1], by rw [h2, k2]; rfl⟩
theorem PtabPost.u {w w' : World} {l : List VoD} {c : Int} {e : Ending} (h : PtabPost w l c e w') : Below w.heap.size w w' ∧ ∃ v, e = .returned (.tuple #[v, .bool (tablesQ l c).isSome]) ∧ TabsAt w' v ((tablesQ l c).getD []) := by
  unfold PtabPost at h
  cases hq : tablesQ l c with
  | none => rw [hq] at h; exact ⟨h.2, _, h.1, ⟨none, 0, rfl, Nat.le_refl _, by unfold maxLen; omega, fun i d hd => by simp at hd⟩⟩
  | some T => rw [hq] at h; obtain ⟨v, h1, h2, h3⟩ := h; exact ⟨h3, v, h1, h2⟩
set_option maxRecDepth 100000 in
set_option maxHeartbeats 4000000 in
theorem tells_walk (HTB : ∀ (l : List VoD) (c : Int) (v1 : Value) (w : World), VolsAt w v1 l → SmallTrees l → Calls Try.prog 13 #[v1, .int .i64 c] w (PtabPost w l c))
    (l : List VoD) (s : ByteArray) (c : Int) (v1 : Value) (w : World) (h1 : VolsAt w v1 l) (hsz : s.size ≤ maxLen) : Calls Try.prog 3 #[v1, .string s, .int .i64 c] w fun e w' => e = .returned (.bool true) ∧ Below w.heap.size w w' := by
  have HVL := Lib.hid h1; have HTR := Lib.hid HTB
  obtain ⟨p1, c1, rfl, _, _, _⟩ := h1
  obtain ⟨n1, hn1⟩ : ∃ n, l.length = n := ⟨_, rfl⟩
  rw [hn1] at HVL ⊢
  have hlc : (s.size : Int) ≤ 9223372036854775807 := by unfold maxLen at hsz; omega
  clear hn1 hsz HTB
  have HB := Lib.hid (show Below w.heap.size w w from Below.refl _ _)
  go_enter Try.func3, Try.ntmps3
  go_wp2_with fail
  refine (rsmall18_any l _ _ HVL.out).mono ?_
  rintro e w1 ⟨rfl, hb⟩
  have HB := Lib.hid (btrans HB.out hb)
  clear hb
  have hbad : (smallVs l = true ∧ s.size ≤ 2000 ∧ ¬ (50 : Int) < c) ∨ (smallVs l = false ∨ (smallVs l = true ∧ (2000 : Int) < (s.size : Int)) ∨ (smallVs l = true ∧ ¬ (2000 : Int) < (s.size : Int) ∧ (50 : Int) < c)) := by
    cases smallVs l <;> simp <;> omega
  rcases hbad with ⟨hm, hs, hc⟩ | hbad
  case inr =>
    rcases hbad with hm | ⟨hm, hs⟩ | ⟨hm, hs, hc⟩
    all_goals
      rw [hm]
      clear hm
      go_wp2_with fail
      refine (fixed_any _).mono ?_
      rintro e wx ⟨rfl, hb⟩
      have HB := Lib.hid (btrans HB.out hb)
      clear hb
      go_wp2_with fail
      go_ret
      exact ⟨rfl, HB.out⟩
  case inl =>
  have hsi : ¬ (2000 : Int) < (s.size : Int) := by omega
  have HL1 := Lib.hid (smallVs_trees hm); have HSZ := Lib.hid hs
  rw [hm]
  clear hm hs
  go_wp2_with fail
  clear hsi hc
  refine (read_p s HSZ.out _).mono ?_
  intro e w2 he
  obtain ⟨hb, oka, xa, va, rfl, hva, hsa, hia⟩ := RdPost.u he
  have HB := Lib.hid (btrans HB.out hb); have HVA := Lib.hid hva; have HSA := Lib.hid hsa; have HIA := Lib.hid (show RdIs s.data.toList oka xa from hia)
  clear hb hva hsa hia he
  go_wp2_with fail
  refine (read_r s HSZ.out _).mono ?_
  intro e w3 he
  obtain ⟨hb, okb, xb, vb, rfl, hvb, hsb, hib⟩ := RdPost.u he
  obtain ⟨rfl, hsame⟩ := HIA.out.same (show RdIs s.data.toList okb xb from hib)
  have HB := Lib.hid (btrans HB.out hb); have HVA := Lib.hid (HVA.out.keep (keeps_below hb)); have HVB := Lib.hid hvb; have HSB := Lib.hid hsb; have HSM := Lib.hid hsame
  clear hb hvb hsb hib he hsame
  go_wp2_with fail
  refine (pTabs_any l c _ _ (HVL.out.keep (keeps_below HB.out)) HL1.out).mono ?_
  intro e w4 he
  obtain ⟨hb, vc, rfl, hvc⟩ := PtabPost.u he
  have HB := Lib.hid (btrans HB.out hb); have HVA := Lib.hid (HVA.out.keep (keeps_below hb)); have HVB := Lib.hid (HVB.out.keep (keeps_below hb)); have HVC := Lib.hid hvc
  clear hb hvc he
  go_wp2_with fail
  refine (HTR.out l c _ _ (HVL.out.keep (keeps_below HB.out)) HL1.out).mono ?_
  intro e w5 he
  obtain ⟨hb, vd, rfl, hvd⟩ := PtabPost.u he
  have HB := Lib.hid (btrans HB.out hb); have HVA := Lib.hid (HVA.out.keep (keeps_below hb)); have HVB := Lib.hid (HVB.out.keep (keeps_below hb)); have HVC := Lib.hid (HVC.out.keep (keeps_below hb)); have HVD := Lib.hid hvd
  clear hb hvd he
  obtain ⟨pt, hpt⟩ : ∃ q, (tablesQ l c).isSome = q := ⟨_, rfl⟩
  obtain ⟨T, hT⟩ : ∃ q, (tablesQ l c).getD [] = q := ⟨_, rfl⟩
  rw [hpt]; rw [hT] at HVC HVD
  clear hpt hT
  go_wp2_with fail
  refine (fixed_any _).mono ?_
  rintro e w6 ⟨rfl, hb⟩
  have HB := Lib.hid (btrans HB.out hb); have HVA := Lib.hid (HVA.out.keep (keeps_below hb)); have HVB := Lib.hid (HVB.out.keep (keeps_below hb)); have HVC := Lib.hid (HVC.out.keep (keeps_below hb)); have HVD := Lib.hid (HVD.out.keep (keeps_below hb))
  clear hb
  go_wp2_with fail
  refine (pText_any l _ _ (HVL.out.keep (keeps_below HB.out)) HL1.out).mono ?_
  rintro e w7 ⟨rfl, hb⟩
  have HB := Lib.hid (btrans HB.out hb); have HVA := Lib.hid (HVA.out.keep (keeps_below hb)); have HVB := Lib.hid (HVB.out.keep (keeps_below hb)); have HVC := Lib.hid (HVC.out.keep (keeps_below hb)); have HVD := Lib.hid (HVD.out.keep (keeps_below hb))
  clear hb
  go_wp2_with fail
  refine (rText_any l _ _ (HVL.out.keep (keeps_below HB.out)) HL1.out).mono ?_
  rintro e w8 ⟨rfl, hb⟩
  have HB := Lib.hid (btrans HB.out hb); have HVA := Lib.hid (HVA.out.keep (keeps_below hb)); have HVB := Lib.hid (HVB.out.keep (keeps_below hb)); have HVC := Lib.hid (HVC.out.keep (keeps_below hb)); have HVD := Lib.hid (HVD.out.keep (keeps_below hb))
  clear hb
  go_wp2_with fail
  refine (rsame18_any xa xb _ _ _ HVA.out HVB.out HSA.out HSB.out).mono ?_
  rintro e w9 ⟨rfl, hb⟩
  rw [HSM.out]
  have HB := Lib.hid (btrans HB.out hb); have HVC := Lib.hid (HVC.out.keep (keeps_below hb)); have HVD := Lib.hid (HVD.out.keep (keeps_below hb))
  clear hb
  go_wp2_with fail
  refine (rsame17_any T T _ _ _ HVC.out HVD.out).mono ?_
  rintro e wa ⟨rfl, hb⟩
  rw [show sameTT T T = true by unfold sameTT; simp]
  have HB := Lib.hid (btrans HB.out hb)
  clear hb
  go_wp2_with fail
  go_ret
  exact ⟨rfl, HB.out⟩
end Go.Proofs.Ytpcmihgfcaelfaa
namespace Go.Proofs.Ytpcmihgfcaelfaa
open Go.RowKit

/-- all blocks but this one are as they were -/
def Mid2 (g : Nat) (W W' : World) : Prop := ∀ b, b ≠ g → b < W.heap.size → W'.heap[b]? = W.heap[b]?
theorem Mid2.cell {g : Nat} {W W' : World} (h : Mid2 g W W') {a : Addr} {v : Value} (hv : W.cell? a = some v) (hg : a.block ≠ g) : W'.cell? a = some v :=
  (World.cell?_of_block (h a.block hg (World.block_lt_of_cell? _ _ hv))).trans hv
theorem Mid2.refl (g : Nat) (W : World) : Mid2 g W W := fun _ _ _ => rfl
theorem Mid2.step {g D : Nat} {W W1 W2 w2 : World} {r : Value} {c : Nat} (h : Mid2 g W W1) (hs : W.heap.size ≤ W1.heap.size) (hb : Below W1.heap.size W1 W2) (hD : W.heap.size ≤ D) (h2 : Below D W2 w2) : Mid2 g W (w2.setCell ⟨g, c, none⟩ r) := fun b hg hlt => by
  rw [Below.heap_setCell _ _ _ b (fun e => by simp only at e; omega), h2.block b (by omega), hb.block b (by omega), h b hg hlt]
theorem tabs_not_int {W : World} {B D g n j : Nat} {T : List (List UseD)} {z : Int} (h : OwnTabs W B D g n T) (hc : W.cell? ⟨g, j, none⟩ = some (.int .i64 z)) : False := by
  obtain ⟨rs, h1, h2, h3, h4, h5⟩ := h
  obtain ⟨cur, hb, _, _, _, hs, ht⟩ := own_block h3
  have hcur : cur[j]? = some (.int .i64 z) := by
    unfold World.cell? at hc
    rw [hb] at hc
    simpa using hc
  have hj : j < cur.size := (Array.getElem?_eq_some_iff.1 hcur).1
  have hrs : rs[j]? = some (.int .i64 z) := by
    rw [← ht, List.getElem?_take, if_pos (by omega), Array.getElem?_toList]; exact hcur
  obtain ⟨t, htj⟩ : ∃ t, T[j]? = some t := ⟨_, List.getElem?_eq_getElem (by have := (List.getElem?_eq_some_iff.1 hrs).1; omega)⟩
  rcases ow_slice (h4 j _ t hrs htj) with ⟨h, _⟩ | ⟨_, _, h⟩ <;> cases h
def SbRel (w w4 : World) (n g N : Nat) (C : List PairD) (i : Value) (wr : World) : Prop :=
  ∃ (k : Nat) (T : List (List UseD)), k ≤ N ∧ i = .int .i64 k ∧ OwnTabs wr g w4.heap.size g n T ∧ (∀ t ∈ T, t.length ≤ k) ∧ tabsG n (List.replicate n []) C = tabsG n T (C.drop k) ∧ Mid2 g w4 wr ∧ Below w.heap.size w wr ∧ w4.heap.size ≤ wr.heap.size
set_option maxRecDepth 100000 in
set_option maxHeartbeats 4000000 in
theorem rTables_any (l : List VoD) (c : Int) (v1 : Value) (w : World) (h1 : VolsAt w v1 l) (l1 : SmallTrees l) : Calls Try.prog 13 #[v1, .int .i64 c] w (PtabPost w l c) := by
  have HV := Lib.hid h1
  have HL1 := Lib.hid l1
  have HMAY := Lib.hid (fun (W : World) (h : Below w.heap.size w W) => rmay18_any l v1 W (h1.keep (keeps_below h)) l1)
  obtain ⟨p, cp, rfl, a1, a2, ha⟩ := h1
  obtain ⟨nl, hnl⟩ : ∃ N, l.length = N := ⟨_, rfl⟩
  rw [hnl] at a1 HV HMAY; rw [hnl]
  clear ha a1 a2 l1 hnl
  by_cases h1 : c < 1
  · have HF := Lib.hid (tablesQ_low (l := l) h1)
    go_enter Try.func13, Try.ntmps13
    go_wp2_with fail
    refine take_ret (PtabPost.no HF.out (Below.refl _ _)) ?_
    simp [results, Try.results13, go_sem]
  by_cases h2 : (1000 : Int) < c
  · have HF := Lib.hid (tablesQ_high (l := l) h2)
    go_enter Try.func13, Try.ntmps13
    go_wp2_with fail
    refine take_ret (PtabPost.no HF.out (Below.refl _ _)) ?_
    simp [results, Try.results13, go_sem]
  cases hm : mayVB l with
  | false =>
    have HF := Lib.hid (tablesQ_bad (c := c) hm)
    have HM := Lib.hid hm
    clear hm
    go_enter Try.func13, Try.ntmps13
    go_wp2_with fail
    refine (HMAY.out _ (Below.refl _ _)).mono ?_
    rintro e w1 ⟨rfl, hb⟩
    rw [HM.out]
    have HB := Lib.hid hb; clear hb
    go_wp2_with fail
    refine take_ret (PtabPost.no HF.out HB.out) ?_
    simp [results, Try.results13, go_sem]
  | true =>
  obtain ⟨n, rfl⟩ : ∃ n : Nat, c = n := ⟨c.toNat, by omega⟩
  have HN := Lib.hid (show 1 ≤ n ∧ n ≤ 1000 by omega)
  have HF := Lib.hid (tablesQ_go HN.out.1 HN.out.2 hm)
  have HM := Lib.hid hm
  have HOK := Lib.hid (counts_ok hm)
  have HVS := Lib.hid (vals_small HL1.out (mayVB_iff.1 hm).2.2)
  clear hm
  go_enter Try.func13, Try.ntmps13
  go_wp2_with fail
  refine (HMAY.out _ (Below.refl _ _)).mono ?_
  rintro e w2 ⟨rfl, hb⟩
  rw [HM.out]
  have HB2 := Lib.hid hb; clear hb
  obtain ⟨w3, hmk, hown3, hb3⟩ := tabs_start w2 n HN.out.2
  obtain ⟨g, hg⟩ : ∃ g, w2.heap.size = g := ⟨_, rfl⟩
  rw [hg] at hmk hown3 hb3
  have HO3 := Lib.hid hown3; have HB3 := Lib.hid (show Below w.heap.size w w3 from HB2.out.trans (hb3.mono (by rw [← hg]; exact HB2.out.size)))
  have HG := Lib.hid (show g < w3.heap.size from ((hown3 0).choose_spec.2.2.1.lt g rfl).2)
  have HWG := Lib.hid (show w.heap.size ≤ g by rw [← hg]; exact HB2.out.size)
  clear hown3 hb3 hg h1 h2
  obtain ⟨C, hC⟩ : ∃ C, countsV l = C := ⟨_, rfl⟩
  have HCL := Lib.hid (show C.length ≤ 600000 by rw [← hC]; exact counts_len (fun _ => HVS.out))
  rw [hC] at HF HOK
  have HC := Lib.hid hC
  clear hC
  go_wp2_with (go_at_call 40; (with_reducible refine (rcounts_any l _ _ (HV.out.keep (keeps_below HB3.out)) HL1.out).mono ?_); rintro e w4 ⟨v4, rfl, hp4, hb4⟩; rw [HC.out] at hp4; have HP := Lib.hid hp4; obtain ⟨pq, cq, rfl, b1, b2, hpa⟩ := hp4; obtain ⟨N, hN⟩ : ∃ N, C.length = N := ⟨_, rfl⟩; rw [hN] at b1 HP HCL; rw [hN]; have HNC := Lib.hid hN; have HPA := Lib.hid hpa; have HB4 := Lib.hid hb4; have hlc : (N : Int) ≤ 9223372036854775807 := (by unfold maxLen at b2; omega); clear hN hpa hb4 b1 b2)
  have HO4 := Lib.hid (show OwnTabs w4 g w4.heap.size g n (List.replicate n []) from (HO3.out _).below HB4.out)
  have HB5 := Lib.hid (btrans HB3.out HB4.out)
  have HG4 := Lib.hid (show g < w4.heap.size from Nat.lt_of_lt_of_le HG.out HB4.out.size)
  have HNI := Lib.hid (fun (j : Nat) (z : Int) => tabs_not_int (j := j) (z := z) HO4.out)
  clear hmk HV HMAY
  go_loopw [8] (fun i wr => SbRel w w4 n g N C i wr) (fun i _ => N - (intOf i).toNat)
  case atStart => exact ⟨0, _, Nat.zero_le _, rfl, HO4.out, fun t ht => by rw [List.mem_replicate] at ht; rw [ht.2]; exact Nat.zero_le _, by rw [List.drop_zero], Mid2.refl _ _, HB5.out, Nat.le_refl _⟩
  case round =>
    obtain ⟨k, T, hk, rfl, hot, hlt, htg, hmid, hb, hsz⟩ := hrel
    have HOT := Lib.hid hot; have HLT := Lib.hid hlt; have HTG := Lib.hid htg; have HMID := Lib.hid hmid; have HBR := Lib.hid hb; have HSZ := Lib.hid hsz
    clear hot hlt htg hmid hb hsz HO4
    by_cases hlt : k < N
    case neg =>
      obtain rfl : k = N := by omega
      have hmm : decide ((k : Int) < (k : Int)) = false := by simp
      have HF2 := Lib.hid (show tablesQ l n = if T.all mayT = true then some T else none by
        rw [HF.out, HTG.out, List.drop_of_length_le (by rw [HNC.out]; exact Nat.le_refl _)]; rfl)
      have hnc : (n : Int) ≤ 9223372036854775807 := by have := HN.out; omega
      go_wp2_with fail
      go_loopw [11] (fun i wr => TcRel w w4.heap.size n g T i wr) (fun i _ => n - (intOf i).toNat)
      case atStart => exact ⟨0, Nat.zero_le _, rfl, HOT.out, fun j t hj => by omega, HBR.out⟩
      case round =>
        obtain ⟨j, hj, rfl, hot, hall, hb⟩ := hrel
        have HOJ := Lib.hid hot; have HALL := Lib.hid hall; have HBJ := Lib.hid hb
        clear hot hall hb
        by_cases hlt2 : j < n
        case neg =>
          obtain rfl : j = n := by omega
          have hmm2 : decide ((j : Int) < (j : Int)) = false := by simp
          have HQ := Lib.hid (show tablesQ l j = some T by
            rw [HF2.out, if_pos]
            rw [List.all_eq_true]
            intro t ht
            obtain ⟨i, hi⟩ := List.getElem?_of_mem ht
            exact HALL.out i t (by have := (List.getElem?_eq_some_iff.1 hi).1; rw [HOJ.out.len] at this; exact this) hi)
          go_wp2_with fail
          refine take_ret (PtabPost.yes HQ.out (HOJ.out.at HN.out.2) HBJ.out) ?_
          simp [results, Try.results13, go_sem]
        case pos =>
          have hji : (j : Int) < (n : Int) := by omega
          have hwj := wrap_le1 hj (show n ≤ 1000000 by have := HN.out; omega)
          obtain ⟨t, ht⟩ : ∃ t, T[j]? = some t := ⟨_, List.getElem?_eq_getElem (by rw [HOJ.out.len]; exact hlt2)⟩
          obtain ⟨r, hr, hor⟩ := HOJ.out.one ht
          have HU := Lib.hid (uses_of_row hor)
          have HT := Lib.hid ht
          clear hor ht
          cases hmt : mayT t with
          | false =>
            have HMT := Lib.hid hmt
            clear hmt
            have HQ := Lib.hid (show tablesQ l n = none by
              rw [HF2.out, if_neg]
              rw [List.all_eq_true]
              intro h
              have := h t (List.mem_of_getElem? HT.out)
              rw [HMT.out] at this; exact absurd this (by simp))
            go_wp2_with (go_at_call 43; (with_reducible refine (rmay14_any t _ _ HU.out).mono ?_); rintro e w6 ⟨rfl, hb6⟩; rw [HMT.out]; have HB6 := Lib.hid hb6; clear hb6)
            refine take_ret (PtabPost.no HQ.out (btrans HBJ.out HB6.out)) ?_
            simp [results, Try.results13, go_sem]
          | true =>
            have HMT := Lib.hid hmt
            clear hmt
            go_wp2_with (go_at_call 43; (with_reducible refine (rmay14_any t _ _ HU.out).mono ?_); rintro e w6 ⟨rfl, hb6⟩; rw [HMT.out]; have HB6 := Lib.hid hb6; clear hb6)
            go_roundw
            case rel => exact ⟨j + 1, by omega, by go_num, HOJ.out.below HB6.out, fun i x hi hx => by
              by_cases e : i = j
              · subst e; rw [HT.out] at hx; cases hx; exact HMT.out
              · exact HALL.out i x (by omega) hx, btrans HBJ.out HB6.out⟩
            case measure => first | exact meas_step hlt2 | (have hm := meas_step hlt2; rw [← hwj] at hm; exact hm)
    case pos =>
      have hki : (k : Int) < (N : Int) := by omega
      have hwk := wrap_le1 hk (show N ≤ 1000000 by have := HCL.out; omega)
      obtain ⟨⟨q1, q2⟩, ht⟩ : ∃ t, C[k]? = some t := ⟨_, List.getElem?_eq_getElem (by rw [HNC.out]; exact hlt)⟩
      have o1 := (HOK.out _ (List.mem_of_getElem? ht)).1
      simp only at o1
      have HRB := Lib.hid (ref_bds o1)
      obtain ⟨gp, op, rfl, y0, y1⟩ := HPA.out k _ ht
      simp only at y0 y1
      have hgp : gp ≠ g := fun e => by subst e; exact HNI.out _ _ y0
      have HGP := Lib.hid (show gp < w4.heap.size ∧ True from ⟨by have := World.block_lt_of_cell? _ _ y0; simpa using this, trivial⟩)
      replace y0 := HMID.out.cell y0 hgp
      replace y1 := HMID.out.cell y1 hgp
      obtain ⟨⟨ch, po, sz, pk⟩, hr⟩ : ∃ r, refOf q1 = r := ⟨_, rfl⟩
      rw [hr] at HRB
      obtain ⟨cn, rfl⟩ : ∃ cn : Nat, ch = cn := ⟨ch.toNat, by have := HRB.out; simp only at this; omega⟩
      have HRO := Lib.hid (show ofR q1 = ⟨cn, po, sz, pk⟩ by unfold ofR; rw [if_pos o1]; exact hr)
      have HTK := Lib.hid ht; have HOB := Lib.hid o1; have HRE := Lib.hid hr; have HY1 := Lib.hid y1
      have HGN := Lib.hid hgp
      clear ht o1 hr hgp
      go_upto_region 9 with (go_at_call 41; (with_reducible refine (rrefof_any q1 HRB.out.1 HRB.out.2.1 _).mono ?_); rintro e w5 ⟨rfl, hb5⟩; rw [HRO.out, HOB.out]; simp only [RefD.agg]; have HB5' := Lib.hid hb5; clear hb5)
      obtain ⟨W6, hW6⟩ : ∃ W6, w5.alloc (.cells #[.int .i64 cn, .int .i64 po, .int .i64 sz, .bool pk] 69) = W6 := ⟨_, rfl⟩
      have hb6 : Below w5.heap.size w5 W6 := by rw [← hW6]; exact (Below.refl _ _).alloc (Nat.le_refl _) _
      have HB6 := Lib.hid (btrans HB5'.out hb6)
      have HR6 := Lib.hid (show RBox w5.heap.size cn po sz pk W6 by rw [← hW6]; exact ⟨by simp, by simp, by simp, by simp⟩)
      have HX6 := Lib.hid (cell_stays HB6.out HY1.out)
      rw [hW6]
      clear hW6 hb6 y0 y1
      have r0 := HR6.out.1
      by_cases hcn : cn < n
      case neg =>
        have hcni : (n : Int) ≤ (cn : Int) := by omega
        have HQ := Lib.hid (show tablesQ l n = none by
          rw [HF.out, HTG.out, tabsG_next HTK.out, if_neg]
          unfold inOk
          rw [HRE.out]
          simp only [Bool.and_eq_true, decide_eq_true_eq]
          omega)
        go_wp2_with fail
        refine take_ret (PtabPost.no HQ.out (btrans HBR.out HB6.out)) ?_
        simp [results, Try.results13, go_sem]
      case pos =>
      have hcni : (cn : Int) < (n : Int) := by omega
      go_upto_region 11 with fail
      clear r0
      obtain ⟨L, hL⟩ : ∃ L, secL sz = L := ⟨_, rfl⟩
      have HLN := Lib.hid hL
      have HBD := Lib.hid (show (-1000000 : Int) ≤ sz ∧ sz ≤ 1000000 by have := HRB.out; simp only at this; omega)
      clear hL
      obtain ⟨t, ht⟩ : ∃ t, T[cn]? = some t := ⟨_, List.getElem?_eq_getElem (by rw [HOT.out.len]; exact hcn)⟩
      obtain ⟨r, hrc, _⟩ := HOT.out.one ht
      have c1 : W6.drew.cell? ⟨g, cn, none⟩ = some r := cell_stays (btrans HB6.out (Below.refl _ _).drew) hrc
      have HTT := Lib.hid ht
      have HTL := Lib.hid (show t.length ≤ 1000000 by have := HLT.out t (List.mem_of_getElem? ht); have := HCL.out; omega)
      have HLT9 := Lib.hid (push_lens (c := cn) (u := (po, L, q2, true)) HLT.out (List.mem_of_getElem? ht))
      have HTG9 := Lib.hid (show tabsG n (List.replicate n []) C = tabsG n (T.set cn (t ++ [(po, L, q2, true)])) (C.drop (k + 1)) by
        rw [HTG.out, tabsG_next HTK.out, if_pos (by unfold inOk; rw [HRE.out, HOB.out]; simp only [Bool.true_and, decide_eq_true_eq]; exact hcni)]
        unfold pushT chunkOf useOf
        simp only [HRE.out, HLN.out, Int.toNat_natCast, ht, Option.getD_some])
      have HS0 := Lib.hid (five_below (show Below W6.heap.size W6 W6.drew from (Below.refl _ _).drew) ⟨HR6.out.1, HR6.out.2.1, HR6.out.2.2.1, HR6.out.2.2.2, HX6.out⟩)
      have HLO := Lib.hid (show wr.heap.size ≤ w5.heap.size from HB5'.out.size)
      have HNG := Lib.hid (show w5.heap.size ≠ g ∧ gp ≠ g from ⟨fun e => by have h1 := HLO.out; have h2 := HSZ.out; have h3 := HG4.out; omega, HGN.out⟩)
      clear ht hrc
      refine wp_region_held_drew (S := fun w' => w'.cell? ⟨w5.heap.size, 0, none⟩ = some (.int .i64 cn) ∧ w'.cell? ⟨w5.heap.size, 1, none⟩ = some (.int .i64 po) ∧ w'.cell? ⟨w5.heap.size, 2, none⟩ = some (.int .i64 sz) ∧ w'.cell? ⟨w5.heap.size, 3, none⟩ = some (.bool pk) ∧ w'.cell? ⟨gp, op + k * 2 + 1, none⟩ = some (.int .i64 q2)) (by kernel_rfl) HS0.out (fun hHeld => ?_)
      refine take_at (i := 0) (d := some 46) (v := .slice (some ⟨g, 0, none⟩) n n) rfl rfl (by kernel_rfl) (by kernel_rfl) (by kernel_rfl) (fun _ _ _ h => h) hHeld (by kernel_rfl) (fun w' hSw => by (try dsimp only at hSw); go_split_ands; go_simp) ?_
      simp only [Act.put, List.setIfInBounds_toArray, List.set_cons_zero, List.set_cons_succ]
      refine take_at (i := 1) (d := some 47) (v := .pointer (some ⟨w5.heap.size, 0, none⟩)) rfl rfl (by kernel_rfl) (by kernel_rfl) (by kernel_rfl) (fun _ _ _ h => h) hHeld (by kernel_rfl) (fun w' hSw => by (try dsimp only at hSw); go_split_ands; go_simp) ?_
      simp only [Act.put, List.setIfInBounds_toArray, List.set_cons_zero, List.set_cons_succ]
      refine take_at (i := 2) (d := some 48) (v := .int .i64 cn) rfl rfl (by kernel_rfl) (by kernel_rfl) (by kernel_rfl) (fun _ _ _ h => h) hHeld (by kernel_rfl) (fun w' hSw => by (try dsimp only at hSw); go_split_ands; go_simp) ?_
      simp only [Act.put, List.setIfInBounds_toArray, List.set_cons_zero, List.set_cons_succ]
      refine take_at (i := 3) (d := some 49) (v := .slice (some ⟨g, 0, none⟩) n n) rfl rfl (by kernel_rfl) (by kernel_rfl) (by kernel_rfl) (fun _ _ _ h => h) hHeld (by kernel_rfl) (fun w' hSw => by (try dsimp only at hSw); go_split_ands; go_simp) ?_
      simp only [Act.put, List.setIfInBounds_toArray, List.set_cons_zero, List.set_cons_succ]
      refine take_at (i := 4) (d := some 50) (v := .pointer (some ⟨w5.heap.size, 0, none⟩)) rfl rfl (by kernel_rfl) (by kernel_rfl) (by kernel_rfl) (fun _ _ _ h => h) hHeld (by kernel_rfl) (fun w' hSw => by (try dsimp only at hSw); go_split_ands; go_simp) ?_
      simp only [Act.put, List.setIfInBounds_toArray, List.set_cons_zero, List.set_cons_succ]
      refine take_at (i := 5) (d := some 51) (v := .int .i64 cn) rfl rfl (by kernel_rfl) (by kernel_rfl) (by kernel_rfl) (fun _ _ _ h => h) hHeld (by kernel_rfl) (fun w' hSw => by (try dsimp only at hSw); go_split_ands; go_simp) ?_
      simp only [Act.put, List.setIfInBounds_toArray, List.set_cons_zero, List.set_cons_succ]
      refine take_at (i := 6) (d := some 52) (v := .pointer (some ⟨g, cn, none⟩)) rfl rfl (by kernel_rfl) (by kernel_rfl) (by kernel_rfl) (fun _ _ _ h => h) hHeld (by kernel_rfl) (fun w' hSw => by (try dsimp only at hSw); go_split_ands; go_simp) ?_
      simp only [Act.put, List.setIfInBounds_toArray, List.set_cons_zero, List.set_cons_succ]
      refine take_at (i := 8) (d := some 54) (v := .pointer (some ⟨w5.heap.size, 1, none⟩)) rfl rfl (by kernel_rfl) (by kernel_rfl) (by kernel_rfl) (fun _ _ _ h => h) hHeld (by kernel_rfl) (fun w' hSw => by (try dsimp only at hSw); go_split_ands; go_simp) ?_
      simp only [Act.put, List.setIfInBounds_toArray, List.set_cons_zero, List.set_cons_succ]
      refine take_at (i := 9) (d := some 55) (v := .int .i64 po) rfl rfl (by kernel_rfl) (by kernel_rfl) (by kernel_rfl) (fun _ _ _ h => h) hHeld (by kernel_rfl) (fun w' hSw => by (try dsimp only at hSw); go_split_ands; go_simp) ?_
      simp only [Act.put, List.setIfInBounds_toArray, List.set_cons_zero, List.set_cons_succ]
      refine take_at (i := 10) (d := some 56) (v := .agg #[.int .i64 cn, .int .i64 po, .int .i64 sz, .bool pk]) rfl rfl (by kernel_rfl) (by kernel_rfl) (by kernel_rfl) (fun _ _ _ h => h) hHeld (by kernel_rfl) (fun w' hSw => by (try dsimp only at hSw); go_split_ands; go_simp) ?_
      simp only [Act.put, List.setIfInBounds_toArray, List.set_cons_zero, List.set_cons_succ]
      refine take_at (i := 12) (d := some 58) (v := .slice (some ⟨gp, op, none⟩) N cq) rfl rfl (by kernel_rfl) (by kernel_rfl) (by kernel_rfl) (fun _ _ _ h => h) hHeld (by kernel_rfl) (fun w' hSw => by (try dsimp only at hSw); go_split_ands; go_simp) ?_
      simp only [Act.put, List.setIfInBounds_toArray, List.set_cons_zero, List.set_cons_succ]
      refine take_at (i := 13) (d := some 59) (v := .int .i64 k) rfl rfl (by kernel_rfl) (by kernel_rfl) (by kernel_rfl) (fun _ _ _ h => h) hHeld (by kernel_rfl) (fun w' hSw => by (try dsimp only at hSw); go_split_ands; go_simp) ?_
      simp only [Act.put, List.setIfInBounds_toArray, List.set_cons_zero, List.set_cons_succ]
      refine take_at (i := 14) (d := some 60) (v := .pointer (some ⟨gp, op + k * 2, none⟩)) rfl rfl (by kernel_rfl) (by kernel_rfl) (by kernel_rfl) (fun _ _ _ h => h) hHeld (by kernel_rfl) (fun w' hSw => by (try dsimp only at hSw); go_split_ands; go_simp) ?_
      simp only [Act.put, List.setIfInBounds_toArray, List.set_cons_zero, List.set_cons_succ]
      refine take_at (i := 15) (d := some 61) (v := .pointer (some ⟨gp, op + k * 2 + 1, none⟩)) rfl rfl (by kernel_rfl) (by kernel_rfl) (by kernel_rfl) (fun _ _ _ h => h) hHeld (by kernel_rfl) (fun w' hSw => by (try dsimp only at hSw); go_split_ands; go_simp) ?_
      simp only [Act.put, List.setIfInBounds_toArray, List.set_cons_zero, List.set_cons_succ]
      refine take_at (i := 16) (d := some 62) (v := .int .i64 q2) rfl rfl (by kernel_rfl) (by kernel_rfl) (by kernel_rfl) (fun _ _ _ h => h) hHeld (by kernel_rfl) (fun w' hSw => by (try dsimp only at hSw); go_split_ands; go_simp) ?_
      simp only [Act.put, List.setIfInBounds_toArray, List.set_cons_zero, List.set_cons_succ]
      refine wpAnyH_ready (rs := [7, 11]) (by kernel_rfl) (by simp) ?_
      refine AllReadyH.cons rfl (fun K hK => ?_) (AllReadyH.cons rfl (fun K hK => ?_) AllReadyH.nil)
      · go_simp
        refine hK.out _ _ HS0.out (fun hHeld => ?_)
        clear hK K
        refine wpAnyH_ready (rs := [11]) (by kernel_rfl) (by simp) ?_
        refine AllReadyH.cons rfl (fun K hK => ?_) AllReadyH.nil
        go_simp
        refine (rlen_b cn po sz L pk HBD.out.1 HBD.out.2 HLN.out W6.drew).mono ?_
        rintro e w7 ⟨rfl, hb7⟩
        have HS7 := Lib.hid (five_below hb7 HS0.out)
        obtain ⟨r2, c7, g9, c9, w9, hrun, hcr, hfr, hot9, hb9, hkeep⟩ := tabs_push wr w7 g w4.heap.size g n cn T t (po, L, q2, true) (btrans (btrans HB6.out (Below.refl _ _).drew) hb7) HOT.out HTT.out HTL.out HSZ.out
        obtain rfl : r2 = r := Option.some.inj (c7.symm.trans (cell_stays hb7 c1))
        obtain ⟨tl, htl⟩ : ∃ n, t.length + 1 = n := ⟨_, rfl⟩
        rw [htl] at hrun hot9
        have HSC := Lib.hid (And.intro (hkeep _ _ HLO.out HS7.out.1) (And.intro (hkeep _ _ HLO.out HS7.out.2.1) (And.intro (hkeep _ _ HLO.out HS7.out.2.2.1) (And.intro (hkeep _ _ HLO.out HS7.out.2.2.2.1) ((hb9.cell HGP.out.1).trans HS7.out.2.2.2.2)))))
        have c8 : (w7.alloc (.cells #[.int .i64 po, .int .i64 L, .int .i64 q2, .bool true] 37)).cell? ⟨g, cn, none⟩ = some r2 := cell_stays ((Below.refl _ _).alloc (Nat.le_refl _) _) c7
        have HRUN := Lib.hid hrun; have HOT9 := Lib.hid hot9; have HCF := Lib.hid (And.intro hcr hfr)
        have HMID9 := Lib.hid (show Mid2 g w4 (w9.setCell ⟨g, cn, none⟩ (.slice (some ⟨g9, 0, none⟩) tl c9)) from HMID.out.step HSZ.out (show Below wr.heap.size wr w7 from btrans (btrans HB6.out (Below.refl _ _).drew) hb7) (Nat.le_refl _) hb9)
        have HB9 := Lib.hid (show Below w.heap.size w (w9.setCell ⟨g, cn, none⟩ (.slice (some ⟨g9, 0, none⟩) tl c9)) from ((HBR.out.trans ((btrans (btrans HB6.out (Below.refl _ _).drew) hb7).mono HBR.out.size)).trans (hb9.mono HB5.out.size)).grown (grown_set w9 g cn _) (Nat.le_trans HBR.out.size (Nat.le_trans (btrans (btrans HB6.out (Below.refl _ _).drew) hb7).size hb9.size)) (fun k e => by cases e; exact HWG.out))
        have HSZ9 := Lib.hid (show w4.heap.size ≤ (w9.setCell ⟨g, cn, none⟩ (.slice (some ⟨g9, 0, none⟩) tl c9)).heap.size from Nat.le_trans HSZ.out (Nat.le_trans (btrans (btrans HB6.out (Below.refl _ _).drew) hb7).size (Nat.le_trans hb9.size (grown_set w9 g cn _).size)))
        clear hrun hot9 hb9 hkeep hcr hfr hb7 hHeld
        go_simp
        refine hK.out _ _ HS7.out (fun hHeld => ?_)
        clear hK K
        refine take_at (i := 17) (d := some 63) (v := .agg #[.int .i64 po, .int .i64 L, .int .i64 q2, .bool true]) rfl rfl (by kernel_rfl) (by kernel_rfl) (by kernel_rfl) (fun _ _ _ h => h) hHeld (by kernel_rfl) (fun w' hSw => by (try dsimp only at hSw); go_split_ands; go_simp) ?_
        simp only [Act.put, List.setIfInBounds_toArray, List.set_cons_zero, List.set_cons_succ]
        refine wpAnyH_ready (rs := [18]) (by kernel_rfl) (by simp) ?_
        refine AllReadyH.cons rfl (fun K hK => ?_) AllReadyH.nil
        go_simp
        refine hK.out _ _ (five_alloc _ HS7.out) (fun hHeld => ?_)
        clear hK K
        refine wpAnyH_ready (rs := [19]) (by kernel_rfl) (by simp) ?_
        refine AllReadyH.cons rfl (fun K hK => ?_) AllReadyH.nil
        refine step_append_run rfl _ _ _ rfl rfl rfl HRUN.out ?_
        refine hK.out _ _ HSC.out (fun hHeld => ?_)
        clear hK K
        refine take_at (i := 20) (d := some 66) (v := .pointer (some ⟨g, cn, none⟩)) rfl rfl (by kernel_rfl) (by kernel_rfl) (by kernel_rfl) (fun _ _ _ h => h) hHeld (by kernel_rfl) (fun w' hSw => by (try dsimp only at hSw); go_split_ands; go_simp) ?_
        simp only [Act.put, List.setIfInBounds_toArray]
        obtain ⟨hcr, hfr⟩ := HCF.out
        refine wpAnyH_ready (rs := [21]) (by kernel_rfl) (by simp) ?_
        refine AllReadyH.cons rfl (fun K hK => ?_) AllReadyH.nil
        go_simp
        refine hK.out _ _ (five_set1 HNG.out.1 HNG.out.2 HSC.out) (fun hHeld => ?_)
        clear hK K hcr hfr hHeld
        refine wpAnyH_done (by kernel_rfl) ?_ _
        clear c1 c7 c8
        go_wp2_with fail
        go_roundw
        case rel => exact ⟨k + 1, T.set cn (t ++ [(po, L, q2, true)]), by omega, by go_num, HOT9.out, HLT9.out, HTG9.out, HMID9.out, HB9.out, HSZ9.out⟩
        case measure => first | exact meas_step hlt | (have hm := meas_step hlt; rw [← hwk] at hm; exact hm)
      · go_simp
        refine (rlen_b cn po sz L pk HBD.out.1 HBD.out.2 HLN.out W6.drew).mono ?_
        rintro e w7 ⟨rfl, hb7⟩
        have HS7 := Lib.hid (five_below hb7 HS0.out)
        obtain ⟨r2, c7, g9, c9, w9, hrun, hcr, hfr, hot9, hb9, hkeep⟩ := tabs_push wr w7 g w4.heap.size g n cn T t (po, L, q2, true) (btrans (btrans HB6.out (Below.refl _ _).drew) hb7) HOT.out HTT.out HTL.out HSZ.out
        obtain rfl : r2 = r := Option.some.inj (c7.symm.trans (cell_stays hb7 c1))
        obtain ⟨tl, htl⟩ : ∃ n, t.length + 1 = n := ⟨_, rfl⟩
        rw [htl] at hrun hot9
        have HSC := Lib.hid (And.intro (hkeep _ _ HLO.out HS7.out.1) (And.intro (hkeep _ _ HLO.out HS7.out.2.1) (And.intro (hkeep _ _ HLO.out HS7.out.2.2.1) (And.intro (hkeep _ _ HLO.out HS7.out.2.2.2.1) ((hb9.cell HGP.out.1).trans HS7.out.2.2.2.2)))))
        have c8 : (w7.alloc (.cells #[.int .i64 po, .int .i64 L, .int .i64 q2, .bool true] 37)).cell? ⟨g, cn, none⟩ = some r2 := cell_stays ((Below.refl _ _).alloc (Nat.le_refl _) _) c7
        have HRUN := Lib.hid hrun; have HOT9 := Lib.hid hot9; have HCF := Lib.hid (And.intro hcr hfr)
        have HMID9 := Lib.hid (show Mid2 g w4 (w9.setCell ⟨g, cn, none⟩ (.slice (some ⟨g9, 0, none⟩) tl c9)) from HMID.out.step HSZ.out (show Below wr.heap.size wr w7 from btrans (btrans HB6.out (Below.refl _ _).drew) hb7) (Nat.le_refl _) hb9)
        have HB9 := Lib.hid (show Below w.heap.size w (w9.setCell ⟨g, cn, none⟩ (.slice (some ⟨g9, 0, none⟩) tl c9)) from ((HBR.out.trans ((btrans (btrans HB6.out (Below.refl _ _).drew) hb7).mono HBR.out.size)).trans (hb9.mono HB5.out.size)).grown (grown_set w9 g cn _) (Nat.le_trans HBR.out.size (Nat.le_trans (btrans (btrans HB6.out (Below.refl _ _).drew) hb7).size hb9.size)) (fun k e => by cases e; exact HWG.out))
        have HSZ9 := Lib.hid (show w4.heap.size ≤ (w9.setCell ⟨g, cn, none⟩ (.slice (some ⟨g9, 0, none⟩) tl c9)).heap.size from Nat.le_trans HSZ.out (Nat.le_trans (btrans (btrans HB6.out (Below.refl _ _).drew) hb7).size (Nat.le_trans hb9.size (grown_set w9 g cn _).size)))
        clear hrun hot9 hb9 hkeep hcr hfr hb7 hHeld
        go_simp
        refine hK.out _ _ HS7.out (fun hHeld => ?_)
        clear hK K
        refine take_at (i := 17) (d := some 63) (v := .agg #[.int .i64 po, .int .i64 L, .int .i64 q2, .bool true]) rfl rfl (by kernel_rfl) (by kernel_rfl) (by kernel_rfl) (fun _ _ _ h => h) hHeld (by kernel_rfl) (fun w' hSw => by (try dsimp only at hSw); go_split_ands; go_simp) ?_
        simp only [Act.put, List.setIfInBounds_toArray, List.set_cons_zero, List.set_cons_succ]
        refine wpAnyH_ready (rs := [7, 18]) (by kernel_rfl) (by simp) ?_
        refine AllReadyH.cons rfl (fun K hK => ?_) (AllReadyH.cons rfl (fun K hK => ?_) AllReadyH.nil)
        · go_simp
          refine hK.out _ _ HS7.out (fun hHeld => ?_)
          clear hK K
          refine wpAnyH_ready (rs := [18]) (by kernel_rfl) (by simp) ?_
          refine AllReadyH.cons rfl (fun K hK => ?_) AllReadyH.nil
          go_simp
          refine hK.out _ _ (five_alloc _ HS7.out) (fun hHeld => ?_)
          clear hK K
          refine wpAnyH_ready (rs := [19]) (by kernel_rfl) (by simp) ?_
          refine AllReadyH.cons rfl (fun K hK => ?_) AllReadyH.nil
          refine step_append_run rfl _ _ _ rfl rfl rfl HRUN.out ?_
          refine hK.out _ _ HSC.out (fun hHeld => ?_)
          clear hK K
          refine take_at (i := 20) (d := some 66) (v := .pointer (some ⟨g, cn, none⟩)) rfl rfl (by kernel_rfl) (by kernel_rfl) (by kernel_rfl) (fun _ _ _ h => h) hHeld (by kernel_rfl) (fun w' hSw => by (try dsimp only at hSw); go_split_ands; go_simp) ?_
          simp only [Act.put, List.setIfInBounds_toArray]
          obtain ⟨hcr, hfr⟩ := HCF.out
          refine wpAnyH_ready (rs := [21]) (by kernel_rfl) (by simp) ?_
          refine AllReadyH.cons rfl (fun K hK => ?_) AllReadyH.nil
          go_simp
          refine hK.out _ _ (five_set1 HNG.out.1 HNG.out.2 HSC.out) (fun hHeld => ?_)
          clear hK K hcr hfr hHeld
          refine wpAnyH_done (by kernel_rfl) ?_ _
          clear c1 c7 c8
          go_wp2_with fail
          go_roundw
          case rel => exact ⟨k + 1, T.set cn (t ++ [(po, L, q2, true)]), by omega, by go_num, HOT9.out, HLT9.out, HTG9.out, HMID9.out, HB9.out, HSZ9.out⟩
          case measure => first | exact meas_step hlt | (have hm := meas_step hlt; rw [← hwk] at hm; exact hm)
        · go_simp
          refine hK.out _ _ (five_alloc _ HS7.out) (fun hHeld => ?_)
          clear hK K
          refine wpAnyH_ready (rs := [7]) (by kernel_rfl) (by simp) ?_
          refine AllReadyH.cons rfl (fun K hK => ?_) AllReadyH.nil
          go_simp
          refine hK.out _ _ hHeld (fun hHeld => ?_)
          clear hK K
          refine wpAnyH_ready (rs := [19]) (by kernel_rfl) (by simp) ?_
          refine AllReadyH.cons rfl (fun K hK => ?_) AllReadyH.nil
          refine step_append_run rfl _ _ _ rfl rfl rfl HRUN.out ?_
          refine hK.out _ _ HSC.out (fun hHeld => ?_)
          clear hK K
          refine take_at (i := 20) (d := some 66) (v := .pointer (some ⟨g, cn, none⟩)) rfl rfl (by kernel_rfl) (by kernel_rfl) (by kernel_rfl) (fun _ _ _ h => h) hHeld (by kernel_rfl) (fun w' hSw => by (try dsimp only at hSw); go_split_ands; go_simp) ?_
          simp only [Act.put, List.setIfInBounds_toArray]
          obtain ⟨hcr, hfr⟩ := HCF.out
          refine wpAnyH_ready (rs := [21]) (by kernel_rfl) (by simp) ?_
          refine AllReadyH.cons rfl (fun K hK => ?_) AllReadyH.nil
          go_simp
          refine hK.out _ _ (five_set1 HNG.out.1 HNG.out.2 HSC.out) (fun hHeld => ?_)
          clear hK K hcr hfr hHeld
          refine wpAnyH_done (by kernel_rfl) ?_ _
          clear c1 c7 c8
          go_wp2_with fail
          go_roundw
          case rel => exact ⟨k + 1, T.set cn (t ++ [(po, L, q2, true)]), by omega, by go_num, HOT9.out, HLT9.out, HTG9.out, HMID9.out, HB9.out, HSZ9.out⟩
          case measure => first | exact meas_step hlt | (have hm := meas_step hlt; rw [← hwk] at hm; exact hm)
end Go.Proofs.Ytpcmihgfcaelfaa
