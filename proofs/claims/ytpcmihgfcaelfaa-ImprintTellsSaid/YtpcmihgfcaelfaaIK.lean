/- The walk of wire.Ints. · The walk of ossuaryref10.Ints. · The text of volumes, in plain words; two ints more behind a row. · What a text is read as, in plain words. · The walk of imprint.Read. · How many nodes, how many pairs: plain. · A text of volumes is read back, and what is read is told: plain. -/
import Derived.Test.YtpcmihgfcaelfaaIH
import Derived.Test.YtpcmihgfcaelfaaShelf
import Derived.Test.YtpcmihgfcaelfaaII
import Derived.Test.YtpcmihgfcaelfaaIJ
import Derived.Test.YtpcmihgfcaelfaaIE
namespace Go.Proofs.Ytpcmihgfcaelfaa
open Go.RowKit

def numOk (x : Int) : Bool := decide (0 ≤ x) && decide (x < 1099511627776)
theorem numS_ok {x : Int} : numS x = [] ↔ numOk x = false := by
  rw [numS_nil]; unfold numOk
  rw [Bool.eq_false_iff]; simp
/-- numbers, and each -/
def intsG (n : Nat) (l : List Int) : List UInt8 := numS n ++ (l.map numS).flatten
def intsS (l : List Int) : List UInt8 := if l.all numOk then intsG l.length l else []
theorem intsG_snoc (n : Nat) (l : List Int) (x : Int) : intsG n (l ++ [x]) = intsG n l ++ numS x := by simp [intsG]
theorem flat_num_le : ∀ l : List Int, ((l.map numS).flatten).length ≤ 6 * l.length
  | [] => by simp
  | x :: l => by
    have h1 := numS_len x
    have h2 := flat_num_le l
    rw [List.map_cons, List.flatten_cons, List.length_append, List.length_cons]; omega
theorem intsG_le (n : Nat) (l : List Int) : (intsG n l).length ≤ 6 * l.length + 6 := by
  have h1 := numS_len n
  have h2 := flat_num_le l
  unfold intsG; rw [List.length_append]; omega
theorem strN_cells (x : Int) : Lib.strCells (strN x) = Lib.byteCells (numS x) := by rw [Lib.strCells_eq]; simp [strN]
theorem ints_start (n : Nat) (l : List Int) : ([] : List Value) ++ Lib.strCells (strN n) = Lib.byteCells (intsG n (l.take 0)) := by
  rw [strN_cells, List.nil_append]; unfold intsG; rw [List.take_zero, List.map_nil, List.flatten_nil, List.append_nil]
theorem strN_size (x : Int) : (strN x).size ≤ 6 := by
  have := numS_len x
  unfold strN; simpa [ByteArray.size] using this
theorem strN_list (x : Int) : (strN x).toList = numS x := by unfold strN; exact ByteArray.toList_mk _
theorem bf_stay {T e : TypeId} {B b : Nat} {bs : List Value} {W W' : World} (h : Lib.IsBuilderF T e B b bs W) (hb : Below W.heap.size W W') : Lib.IsBuilderF T e B b bs W' := by
  rcases h with h | h
  · have hl := h.lt
    obtain ⟨h1, v, h2, h3, h4⟩ := h
    exact .inl ⟨h1, v, (hb.block b hl).trans h2, h3.kept (grown_of_below hb none) (by cases v.ownBlock <;> simp), h4⟩
  · have hl := h.lt
    obtain ⟨h1, v, h2, h3, h4⟩ := h
    exact .inr ⟨h1, v, (hb.block b hl).trans h2, h3.kept (grown_of_below hb none) (by cases v.ownBlock <;> simp), h4⟩
theorem ws_bound {n : Nat} (x : Int) (h : n ≤ 10000000) : n + (strN x).size ≤ 140737488355328 := by
  have := strN_size x
  exact Nat.le_trans (Nat.add_le_add h this) (by decide)
theorem ws_bound0 (x : Int) : ([] : List Value).length + (strN x).size ≤ 140737488355328 := ws_bound x (Nat.zero_le _)
theorem ws_boundG {n : Nat} {l : List Int} (x : Int) (h : l.length ≤ 1000000) : (Lib.byteCells (intsG n l)).length + (strN x).size ≤ 140737488355328 := by
  have h1 := intsG_le n l
  rw [Lib.byteCells_length]
  exact ws_bound x (by omega)
def IiRel (w : World) (l : List Int) (i : Value) (wr : World) : Prop :=
  ∃ k : Nat, k ≤ l.length ∧ i = .int .i64 k ∧ (l.take k).all numOk = true ∧ Lib.IsBuilderF 77 5 w.heap.size w.heap.size (Lib.byteCells (intsG l.length (l.take k))) wr ∧ Below w.heap.size w wr
set_option maxRecDepth 100000 in
set_option maxHeartbeats 4000000 in
theorem ints_any (l : List Int) (v : Value) (w : World) (h : IntsAt w v l) (hl : l.length ≤ 1000000) : Calls Try.prog 47 #[v] w fun e w' => e = .returned (.string ⟨(intsS l).toArray⟩) ∧ Below w.heap.size w w' := by
  obtain ⟨p, c, rfl, hc1, hc2, hin⟩ := h
  have HIN := Lib.hid hin
  have HL := Lib.hid hl
  have HBF : Lib.IsBuilderF 77 5 w.heap.size w.heap.size [] (w.alloc (.cells #[.pointer none, .slice none 0 0] 77)) := Lib.IsBuilderF.of (Lib.fresh_isBuilder _ _ w)
  have HB0 := Lib.hid (show Below w.heap.size w (w.alloc (.cells #[.pointer none, .slice none 0 0] 77)) from (Below.refl _ w).alloc (Nat.le_refl _) _)
  have HBF0 := Lib.hid HBF
  have HCN := Lib.hid (numP_any)
  clear hin HBF hl
  go_enter Try.func47, Try.ntmps47
  go_wp2_with (first | (go_at_call 45; (with_reducible refine (HCN.out _ _).mono ?_); rintro e w1 ⟨rfl, hb1⟩) | (go_at_call 44; (with_reducible refine (Try.Builder_WriteString_f w.heap.size w.heap.size [] _ _ (bf_stay HBF0.out hb1) (ws_bound0 _) (Nat.le_trans HB0.out.size hb1.size)).mono ?_); rintro e w2 ⟨rfl, hbf2, hb2⟩))
  have HBF2 := Lib.hid (show Lib.IsBuilderF 77 5 w.heap.size w.heap.size (Lib.byteCells (intsG l.length (l.take 0))) w2 from .inr (by rw [← ints_start]; exact hbf2))
  have HB2 := Lib.hid (show Below w.heap.size w w2 from (btrans2 HB0.out hb1 HB0.out.size).trans hb2)
  clear hbf2 hb1 hb2
  go_loopw [13] (fun i wr => IiRel w l i wr) (fun i _ => l.length - (intOf i).toNat)
  case atStart => exact ⟨0, Nat.zero_le _, rfl, by simp, HBF2.out, HB2.out⟩
  case round =>
    obtain ⟨k, hk, rfl, hall, hbf, hb⟩ := hrel
    have HBF := Lib.hid hbf; have HB := Lib.hid hb; have HALL := Lib.hid hall
    clear hbf hb hall HBF2 HB2 HB0 HBF0
    by_cases hlt : k < l.length
    case neg =>
      obtain rfl : k = l.length := by omega
      have hmm : decide ((l.length : Int) < (l.length : Int)) = false := by simp
      have HF := Lib.hid (show intsS l = intsG l.length (l.take l.length) by
        have := HALL.out
        rw [List.take_length] at this
        unfold intsS; rw [this, List.take_length]; rfl)
      go_wp2_with (go_at_call 48; (with_reducible refine (Try.Builder_String_any_f w.heap.size w.heap.size _ _ HBF.out HB.out.size).mono ?_); rintro e w3 ⟨rfl, hbf3, hb3⟩)
      refine take_ret ⟨by rw [HF.out], HB.out.trans hb3⟩ ?_
      simp [results, Try.results47, go_sem]
    case pos =>
      have hki : decide ((k : Int) < (l.length : Int)) = true := by simp only [decide_eq_true_eq]; omega
      have hki2 : decide (k < l.length) = true := by simp only [decide_eq_true_eq]; omega
      obtain ⟨x, hx⟩ : ∃ x, l[k]? = some x := ⟨l[k], List.getElem?_eq_getElem hlt⟩
      obtain ⟨_, g, o, rfl, hcell⟩ := HIN.out k x hx
      have hcl : wr.cell? ⟨g, o + k, none⟩ = some (.int .i64 x) := (HB.out.cell (World.block_lt_of_cell? w _ hcell)).trans hcell
      have HT := Lib.hid (show l.take (k + 1) = l.take k ++ [x] by rw [List.take_add_one, hx]; rfl)
      cases hok : numOk x with
      | false =>
        have e1 : ((strN x).toList == ([] : List UInt8)) = true := by rw [strN_list, numS_ok.2 hok]; rfl
        have e2 : (strN x).toList = [] := by rw [strN_list, numS_ok.2 hok]
        have HF := Lib.hid (show intsS l = [] by
          unfold intsS
          rw [if_neg]
          intro ha
          rw [List.all_eq_true] at ha
          rw [ha x (List.mem_of_getElem? hx)] at hok; cases hok)
        clear hcell hx
        go_wp2_with (go_at_call 45; (with_reducible refine (HCN.out _ _).mono ?_); rintro e w1 ⟨rfl, hb1⟩)
        refine take_ret (v := .string ⟨#[]⟩) ⟨by rw [HF.out], btrans2 HB.out hb1 HB.out.size⟩ ?_
        simp [results, Try.results47, go_sem]
      | true =>
        have hne : ¬ numS x = [] := fun e => by rw [numS_ok.1 e] at hok; cases hok
        have e1 : ((strN x).toList == ([] : List UInt8)) = false := by rw [strN_list, beq_eq_false_iff_ne]; exact hne
        have e2 : ¬ (strN x).toList = [] := by rw [strN_list]; exact hne
        have HALL2 := Lib.hid (show (l.take (k + 1)).all numOk = true by rw [HT.out, List.all_append, HALL.out]; simp [hok])
        clear hcell hx hne
        have hwk : wrap64 ((k : Int) + 1) = (k : Int) + 1 := by have := HL.out; unfold wrap64; omega
        go_wp2_with (first | (go_at_call 45; (with_reducible refine (HCN.out _ _).mono ?_); rintro e w1 ⟨rfl, hb1⟩) | (go_at_call 44; (with_reducible refine (Try.Builder_WriteString_f w.heap.size w.heap.size _ _ _ (bf_stay HBF.out hb1) (ws_boundG _ (by rw [List.length_take]; have := HL.out; omega)) (Nat.le_trans HB.out.size hb1.size)).mono ?_); rintro e w2 ⟨rfl, hbf2, hb2⟩))
        go_roundw
        case rel => exact ⟨k + 1, by omega, by go_num, HALL2.out, .inr (by rw [HT.out, intsG_snoc, Lib.byteCells_append, ← strN_cells]; exact hbf2), (btrans2 HB.out hb1 HB.out.size).trans hb2⟩
        case measure => first | exact meas_step hlt | (have hm := meas_step hlt; rw [← hwk] at hm; exact hm)
end Go.Proofs.Ytpcmihgfcaelfaa
namespace Go.Proofs.Ytpcmihgfcaelfaa
open Go.RowKit

def strG (n : Nat) (l : List Int) : ByteArray := ⟨(intsG n l).toArray⟩
theorem strG_start (n : Nat) (l : List Int) : strN n = strG n (l.take 0) := by
  unfold strG strN intsG; rw [List.take_zero, List.map_nil, List.flatten_nil, List.append_nil]
theorem strG_snoc (n : Nat) (l : List Int) (x : Int) : strG n l ++ strN x = strG n (l ++ [x]) := by
  unfold strG strN; rw [intsG_snoc]
  apply ByteArray.ext
  apply Array.ext'
  simp
theorem strG_fit {n k : Nat} {l : List Int} (x : Int) (h : l.length ≤ 1000000) : ¬ 9223372036854775807 < (strG n (l.take k)).size + (strN x).size := by
  have h1 := intsG_le n (l.take k)
  have h2 := strN_size x
  have h3 : (strG n (l.take k)).size = (intsG n (l.take k)).length := by unfold strG; simp [ByteArray.size]
  have h4 : (l.take k).length ≤ l.length := by rw [List.length_take]; exact Nat.min_le_right _ _
  rw [h3]
  have h5 : (intsG n (l.take k)).length + (strN x).size ≤ 6000012 := by omega
  exact Nat.not_lt.2 (Nat.le_trans h5 (by decide))
def IjRel (w : World) (l : List Int) (i t : Value) (wr : World) : Prop :=
  ∃ k : Nat, k ≤ l.length ∧ i = .int .i64 k ∧ (l.take k).all numOk = true ∧ t = .string (strG l.length (l.take k)) ∧ Below w.heap.size w wr
set_option maxRecDepth 100000 in
set_option maxHeartbeats 4000000 in
theorem intsR_any (l : List Int) (v : Value) (w : World) (h : IntsAt w v l) (hl : l.length ≤ 1000000) : Calls Try.prog 50 #[v] w fun e w' => e = .returned (.string ⟨(intsS l).toArray⟩) ∧ Below w.heap.size w w' := by
  obtain ⟨p, c, rfl, hc1, hc2, hin⟩ := h
  have HIN := Lib.hid hin
  have HL := Lib.hid hl
  have HCN := Lib.hid (numR_any)
  clear hin hl
  go_enter Try.func50, Try.ntmps50
  go_wp2_with (go_at_call 49; (with_reducible refine (HCN.out _ _).mono ?_); rintro e w1 ⟨rfl, hb1⟩)
  have HB1 := Lib.hid hb1
  clear hb1
  go_loopw [4, 3] (fun i t wr => IjRel w l i t wr) (fun i _ _ => l.length - (intOf i).toNat)
  case atStart => exact ⟨0, Nat.zero_le _, rfl, by simp, by rw [strG_start _ l], HB1.out⟩
  case round =>
    obtain ⟨k, hk, rfl, hall, rfl, hb⟩ := hrel
    have HB := Lib.hid hb; have HALL := Lib.hid hall
    clear hb hall HB1
    by_cases hlt : k < l.length
    case neg =>
      obtain rfl : k = l.length := by omega
      have hmm : decide ((l.length : Int) < (l.length : Int)) = false := by simp
      have HF := Lib.hid (show intsS l = intsG l.length (l.take l.length) by
        have := HALL.out
        rw [List.take_length] at this
        unfold intsS; rw [this, List.take_length]; rfl)
      go_wp2_with fail
      refine take_ret (v := .string ⟨(intsG l.length (l.take l.length)).toArray⟩) ⟨by rw [HF.out], HB.out⟩ ?_
      simp [results, Try.results50, go_sem, strG]
    case pos =>
      have hki : decide ((k : Int) < (l.length : Int)) = true := by simp only [decide_eq_true_eq]; omega
      have hki2 : decide (k < l.length) = true := by simp only [decide_eq_true_eq]; omega
      obtain ⟨x, hx⟩ : ∃ x, l[k]? = some x := ⟨l[k], List.getElem?_eq_getElem hlt⟩
      obtain ⟨_, g, o, rfl, hcell⟩ := HIN.out k x hx
      have hcl : wr.cell? ⟨g, o + k, none⟩ = some (.int .i64 x) := (HB.out.cell (World.block_lt_of_cell? w _ hcell)).trans hcell
      have HT := Lib.hid (show l.take (k + 1) = l.take k ++ [x] by rw [List.take_add_one, hx]; rfl)
      cases hok : numOk x with
      | false =>
        have e1 : ((strN x).toList == ([] : List UInt8)) = true := by rw [strN_list, numS_ok.2 hok]; rfl
        have e2 : (strN x).toList = [] := by rw [strN_list, numS_ok.2 hok]
        have HF := Lib.hid (show intsS l = [] by
          unfold intsS
          rw [if_neg]
          intro ha
          rw [List.all_eq_true] at ha
          rw [ha x (List.mem_of_getElem? hx)] at hok; cases hok)
        clear hcell hx
        go_wp2_with (go_at_call 49; (with_reducible refine (HCN.out _ _).mono ?_); rintro e w1 ⟨rfl, hb1⟩)
        refine take_ret (v := .string ⟨#[]⟩) ⟨by rw [HF.out], btrans2 HB.out hb1 HB.out.size⟩ ?_
        simp [results, Try.results50, go_sem]
      | true =>
        have hne : ¬ numS x = [] := fun e => by rw [numS_ok.1 e] at hok; cases hok
        have e1 : ((strN x).toList == ([] : List UInt8)) = false := by rw [strN_list, beq_eq_false_iff_ne]; exact hne
        have e2 : ¬ (strN x).toList = [] := by rw [strN_list]; exact hne
        have HALL2 := Lib.hid (show (l.take (k + 1)).all numOk = true by rw [HT.out, List.all_append, HALL.out]; simp [hok])
        clear hcell hx hne
        have hfit := strG_fit (n := l.length) (k := k) x HL.out
        have hwk : wrap64 ((k : Int) + 1) = (k : Int) + 1 := by have := HL.out; unfold wrap64; omega
        go_wp2_with (first | (go_at_call 49; (with_reducible refine (HCN.out _ _).mono ?_); rintro e w2 ⟨rfl, hb2⟩; have HB2 := Lib.hid (btrans2 (btrans2 HB.out hb1 HB.out.size) hb2 (Nat.le_trans HB.out.size hb1.size))) | (go_at_call 49; (with_reducible refine (HCN.out _ _).mono ?_); rintro e w1 ⟨rfl, hb1⟩; have hcl1 : w1.cell? ⟨g, o + k, none⟩ = some (.int .i64 x) := (hb1.cell (World.block_lt_of_cell? _ _ hcl)).trans hcl))
        go_roundw
        case rel => exact ⟨k + 1, by omega, by go_num, HALL2.out, by rw [HT.out, ← strG_snoc], HB2.out⟩
        case measure => first | exact meas_step hlt | (have hm := meas_step hlt; rw [← hwk] at hm; exact hm)
end Go.Proofs.Ytpcmihgfcaelfaa
namespace Go.Proofs.Ytpcmihgfcaelfaa
open Go.RowKit

def flatP : List PairD → List Int
  | [] => []
  | x :: l => x.1 :: x.2 :: flatP l
theorem flatP_snoc : ∀ (l : List PairD) (x : PairD), flatP (l ++ [x]) = flatP l ++ [x.1, x.2]
  | [], x => rfl
  | a :: l, x => by simp only [List.cons_append, flatP, flatP_snoc l x]
theorem flatP_len : ∀ l : List PairD, (flatP l).length = 2 * l.length
  | [] => rfl
  | a :: l => by simp only [flatP, List.length_cons, flatP_len l]; omega
theorem flatP_bd : ∀ l : List PairD, PBd l → ∀ x ∈ flatP l, i64B x
  | [], _, x, h => by simp [flatP] at h
  | a :: l, hb, x, h => by
    simp only [flatP, List.mem_cons] at h
    rcases h with rfl | rfl | h
    · exact (hb a (by simp)).1
    · exact (hb a (by simp)).2
    · exact flatP_bd l (fun y hy => hb y (by simp [hy])) x h
/-- the numbers of a volume -/
def numsV (d : VoD) : List Int := d.id :: d.size :: flatP (pairsN d.map)
def volsS : List VoD → List UInt8
  | [] => []
  | d :: l => intsS (numsV d) ++ volsS l
theorem volsS_snoc : ∀ (l : List VoD) (d : VoD), volsS (l ++ [d]) = volsS l ++ intsS (numsV d)
  | [], d => by simp [volsS]
  | a :: l, d => by simp only [List.cons_append, volsS, volsS_snoc l d, List.append_assoc]
noncomputable def textV (l : List VoD) : List UInt8 := if mayVB l = true then numS l.length ++ volsS l else []
theorem intsS_le (l : List Int) : (intsS l).length ≤ 6 * l.length + 6 := by
  unfold intsS; split
  · exact intsG_le _ _
  · simp
theorem numsV_len (d : VoD) : (numsV d).length = 2 + 2 * (pairsN d.map).length := by unfold numsV; simp only [List.length_cons, flatP_len]; omega
theorem volsS_le : ∀ l : List VoD, SmallTrees l → (volsS l).length ≤ 30000 * l.length
  | [], _ => by simp [volsS]
  | d :: l, h => by
    have h1 := volsS_le l (fun x hx => h x (by simp [hx]))
    have h2 := intsS_le (numsV d)
    have h3 := h d (by simp)
    rw [numsV_len] at h2
    unfold SmallTree at h3
    simp only [volsS, List.length_append, List.length_cons]; omega
theorem small_take {l : List VoD} (h : SmallTrees l) (k : Nat) : SmallTrees (l.take k) := fun d hd => h d (List.mem_of_mem_take hd)
theorem textG_le {l : List VoD} {k : Nat} (h : SmallTrees l) (h2 : l.length ≤ 64) : (numS l.length ++ volsS (l.take k)).length ≤ 2000000 := by
  have h1 := volsS_le _ (small_take h k)
  have h3 := numS_len l.length
  rw [List.length_take] at h1
  rw [List.length_append]; omega
theorem str_cells {s : List UInt8} : Lib.strCells ⟨s.toArray⟩ = Lib.byteCells s := by rw [Lib.strCells_eq]
theorem ba_size (s : List UInt8) : (⟨s.toArray⟩ : ByteArray).size = s.length := by simp [ByteArray.size]
/-- two ints more behind a row of the call's own -/
theorem int_append2 (W : World) (B n : Nat) (v : Value) (l : List Int) (x y : Int) (hown : W.ownsRow B 3 1 v n (intVs l)) (hn : n ≤ 1000000) (hB : B ≤ W.heap.size) :
    ∃ g cap w2, (Builtin.append_ #[40, 40] 40 #[v, .slice (some ⟨W.heap.size, 0, none⟩) 2 2]).run Try.prog (W.alloc (.cells #[.int .i64 x, .int .i64 y] 3)) = .ok (.slice (some ⟨g, 0, none⟩) (n + 2) cap) w2 ∧
      w2.ownsRow B 3 1 (.slice (some ⟨g, 0, none⟩) (n + 2) cap) (n + 2) (intVs (l ++ [x, y])) ∧ Below B W w2 ∧ Others W w2 v (.slice (some ⟨g, 0, none⟩) (n + 2) cap) := by
  obtain ⟨i0, hi0, hz0, hz1, hz2⟩ := info_parts infoI
  obtain ⟨v', w', h1, h2, h3, _, h5⟩ := run_append_own_at (P := Try.prog) (W.alloc (.cells #[.int .i64 x, .int .i64 y] 3)) B 40 40 3 i0 (.int .i64 0) 1 8 Try.underlying40 hi0 hz0 hz1 hz2 rfl (by decide) v n _ (hown.alloc _) ⟨W.heap.size, 0, none⟩ 2 2 [.int .i64 x, .int .i64 y] rfl (by
      intro j u hu
      rw [ow_at, World.cell?_alloc_at _ _ _ _ rfl]
      rcases j with _ | _ | j
      · exact hu
      · exact hu
      · simp at hu) (by intro u hu; simp only [List.mem_cons, List.not_mem_nil, or_false] at hu; rcases hu with rfl | rfl <;> rfl) (by unfold maxLen; omega) (by omega) (by simp; omega)
  obtain ⟨g, cap, rfl⟩ := ownsRow_succ (show w'.ownsRow B 3 1 v' (n + 1 + 1) (intVs l ++ [.int .i64 x, .int .i64 y]) from h2)
  refine ⟨g, cap, w', h1, ?_, ow_grown (Below.refl _ _) hB hown h3, others_of (fun B' e' k' u m ys h => h.alloc _) h3 h5⟩
  unfold intVs at *; rw [List.map_append]; exact h2
end Go.Proofs.Ytpcmihgfcaelfaa
namespace Go.Proofs.Ytpcmihgfcaelfaa
open Go.RowKit

/-- a volume read: its number, size, pairs -/
abbrev RvD := Int × Int × List PairD
/-- so many volumes, from a place on -/
def readG (s : List UInt8) : Nat → Int → Option (List RvD × Int)
  | 0, a => some ([], a)
  | n + 1, a => match takeI s a with
    | none => none
    | some x => match volL x.1 with
      | none => none
      | some v => (readG s n x.2).map fun y => (v :: y.1, y.2)
theorem readG_next {s : List UInt8} {k m : Nat} {c : Int} (h : k < m) : readG s (m - k) c = match takeI s c with
    | none => none
    | some x => match volL x.1 with
      | none => none
      | some v => (readG s (m - (k + 1)) x.2).map fun y => (v :: y.1, y.2) := by
  obtain ⟨d, hd⟩ : ∃ d, m - k = d + 1 := ⟨m - k - 1, by omega⟩
  rw [hd, show m - (k + 1) = d by omega]; rfl
/-- a volume and what is read of it -/
def IsRv (d : VoD) (v : RvD) : Prop := d.id = v.1 ∧ d.size = v.2.1 ∧ Grown v.2.2 d.map
end Go.Proofs.Ytpcmihgfcaelfaa
namespace Go.Proofs.Ytpcmihgfcaelfaa
open Go.RowKit

def RvAll (x : List VoD) (L : List RvD) : Prop := x.length = L.length ∧ ∀ (j : Nat) d v, x[j]? = some d → L[j]? = some v → IsRv d v
theorem RvAll.nil : RvAll [] [] := ⟨rfl, fun j d v h => by simp at h⟩
theorem RvAll.snoc {x : List VoD} {L : List RvD} {d : VoD} {v : RvD} (h : RvAll x L) (hd : IsRv d v) : RvAll (x ++ [d]) (L ++ [v]) := by
  refine ⟨by simp [h.1], fun j a b ha hb => ?_⟩
  by_cases hj : j < x.length
  · rw [List.getElem?_append_left hj] at ha
    rw [List.getElem?_append_left (by rw [← h.1]; exact hj)] at hb
    exact h.2 j a b ha hb
  · rw [List.getElem?_append_right (by omega)] at ha
    rw [List.getElem?_append_right (by rw [← h.1]; omega), ← h.1] at hb
    have e : j - x.length = 0 := by
      have := (List.getElem?_eq_some_iff.1 ha).1
      simp at this; omega
    rw [e] at ha hb
    simp at ha hb
    subst ha; subst hb; exact hd
theorem RvAll.small {x : List VoD} {L : List RvD} (h : RvAll x L) (hs : ∀ v ∈ L, v.2.2.length ≤ 2000) : SmallTrees x := fun d hd => by
  obtain ⟨j, hj⟩ := List.getElem?_of_mem hd
  obtain ⟨v, hv⟩ : ∃ v, L[j]? = some v := ⟨_, List.getElem?_eq_getElem (by rw [← h.1]; exact (List.getElem?_eq_some_iff.1 hj).1)⟩
  have h1 := (h.2 j d v hj hv).2.2
  unfold SmallTree
  rw [h1.1]; exact hs v (List.mem_of_getElem? hv)
def readQ (s : List UInt8) : Option (List RvD) := match takeD s 0 with
  | none => none
  | some x => if x.1 > 64 then none else match readG s x.1.toNat x.2 with
    | none => none
    | some y => if y.2 = (s.length : Int) then some y.1 else none
def PreadPost (s : ByteArray) (w : World) (e : Ending) (w' : World) : Prop := match readQ s.data.toList with
  | none => e = .returned (.tuple #[.slice none 0 0, .bool false]) ∧ Below w.heap.size w w'
  | some L => ∃ x, RvAll x L ∧ Below w.heap.size w w' ∧ ((mayVB x = true ∧ ∃ v, e = .returned (.tuple #[v, .bool true]) ∧ VolsAt w' v x) ∨ (mayVB x = false ∧ e = .returned (.tuple #[.slice none 0 0, .bool false])))
theorem PreadPost.no {s : ByteArray} {w w' : World} (h : readQ s.data.toList = none) (hb : Below w.heap.size w w') : PreadPost s w (.returned (.tuple #[.slice none 0 0, .bool false])) w' := by
  unfold PreadPost; rw [h]; exact ⟨rfl, hb⟩
theorem PreadPost.out {s : ByteArray} {w w' : World} {L : List RvD} {x : List VoD} (h : readQ s.data.toList = some L) (hx : RvAll x L) (hm : mayVB x = false) (hb : Below w.heap.size w w') : PreadPost s w (.returned (.tuple #[.slice none 0 0, .bool false])) w' := by
  unfold PreadPost; rw [h]; exact ⟨x, hx, hb, .inr ⟨hm, rfl⟩⟩
theorem PreadPost.yes {s : ByteArray} {w w' : World} {L : List RvD} {x : List VoD} {v : Value} (h : readQ s.data.toList = some L) (hx : RvAll x L) (hm : mayVB x = true) (hv : VolsAt w' v x) (hb : Below w.heap.size w w') : PreadPost s w (.returned (.tuple #[v, .bool true])) w' := by
  unfold PreadPost; rw [h]; exact ⟨x, hx, hb, .inl ⟨hm, v, rfl, hv⟩⟩
theorem readQ_none {s : List UInt8} (h : takeD s 0 = none) : readQ s = none := by unfold readQ; rw [h]
theorem readQ_many {s : List UInt8} {x : Int × Int} (h : takeD s 0 = some x) (h2 : 64 < x.1) : readQ s = none := by unfold readQ; rw [h]; simp only; rw [if_pos h2]
theorem readQ_go {s : List UInt8} {x : Int × Int} (h : takeD s 0 = some x) (h2 : ¬ 64 < x.1) : readQ s = match readG s x.1.toNat x.2 with
    | none => none
    | some y => if y.2 = (s.length : Int) then some y.1 else none := by unfold readQ; rw [h]; simp only; rw [if_neg h2]
theorem takeN_bd {s : List UInt8} : ∀ (k : Nat) (a : Int) {x : List Int × Int}, takeN s k a = some x → x.1.length = k ∧ ∀ y ∈ x.1, 0 ≤ y ∧ y < 1099511627776
  | 0, a, x, h => by simp only [takeN, Option.some.injEq] at h; subst h; exact ⟨rfl, fun y hy => by simp at hy⟩
  | k + 1, a, x, h => by
    rw [takeN] at h
    cases hd : takeD s a with
    | none => rw [hd] at h; simp at h
    | some z =>
      rw [hd] at h
      simp only [Option.map_eq_some_iff] at h
      obtain ⟨u, hu, rfl⟩ := h
      have h1 := takeN_bd k z.2 hu
      have h2 := takeD_bd hd
      refine ⟨by simp [h1.1], fun y hy => ?_⟩
      rw [List.mem_cons] at hy
      rcases hy with rfl | hy
      · exact ⟨h2.1, h2.2.1⟩
      · exact h1.2 y hy
theorem takeI_bd {s : List UInt8} {a : Int} {x : List Int × Int} (h : takeI s a = some x) : x.1.length ≤ s.length ∧ ∀ y ∈ x.1, 0 ≤ y ∧ y < 1099511627776 := by
  unfold takeI at h
  cases hd : takeD s a with
  | none => rw [hd] at h; simp at h
  | some z =>
    rw [hd] at h
    simp only at h
    have h2 := takeD_bd hd
    split at h
    · simp at h
    · have h1 := takeN_bd _ _ h
      exact ⟨by rw [h1.1]; omega, h1.2⟩
def PrRel (s : ByteArray) (w : World) (m : Nat) (b : Int) (i a v : Value) (wr : World) : Prop :=
  ∃ (k : Nat) (c : Int) (x : List VoD) (L : List RvD), k ≤ m ∧ i = .int .i64 k ∧ a = .int .i64 c ∧ OwnVols wr w.heap.size v x ∧ x.length = k ∧ RvAll x L ∧ readG s.data.toList m b = (readG s.data.toList (m - k) c).map (fun y => (L ++ y.1, y.2)) ∧ Below w.heap.size w wr
theorem readG_step {s : List UInt8} {k m : Nat} {c : Int} {L : List RvD} {x : List Int × Int} {v : RvD} {t : Option (List RvD × Int)} (h : k < m) (hd : takeI s c = some x) (hv : volL x.1 = some v) (ht : t = (readG s (m - k) c).map fun y => (L ++ y.1, y.2)) : t = (readG s (m - (k + 1)) x.2).map fun y => ((L ++ [v]) ++ y.1, y.2) := by
  rw [ht, readG_next h, hd]
  simp only [hv, Option.map_map]
  congr 1
  funext y
  simp
theorem readG_no1 {s : List UInt8} {k m : Nat} {c : Int} {L : List RvD} {t : Option (List RvD × Int)} (h : k < m) (hd : takeI s c = none) (ht : t = (readG s (m - k) c).map fun y => (L ++ y.1, y.2)) : t = none := by
  rw [ht, readG_next h, hd]; rfl
theorem readG_no2 {s : List UInt8} {k m : Nat} {c : Int} {L : List RvD} {x : List Int × Int} {t : Option (List RvD × Int)} (h : k < m) (hd : takeI s c = some x) (hv : volL x.1 = none) (ht : t = (readG s (m - k) c).map fun y => (L ++ y.1, y.2)) : t = none := by
  rw [ht, readG_next h, hd]
  simp only [hv]; rfl
theorem ov_lt {w : World} {B : Nat} {v : Value} {l : List VoD} (h : OwnVols w B v l) : ∀ k, v.ownBlock = some k → k < w.heap.size := by
  obtain ⟨xs, _, hown, _⟩ := h
  exact fun k hk => (hown.lt k hk).2
theorem ov_node {w3 w4 W5 : World} {v : Value} {t : NodeD} {a b c : Value} (h : ∀ k, v.ownBlock = some k → k < w3.heap.size) (hb : Below w4.heap.size w4 W5) (hn : NodeAt (mask (OwnF w3.heap.size w4) w4) t a b c) : NodeAt (mask (fun b => some b ≠ v.ownBlock) W5) t a b c :=
  hn.keep (mask_keeps fun _ _ hf hv => ⟨fun e => by have := h _ e.symm; have := hf.1; omega, keeps_below hb _ _ hv⟩)
set_option maxRecDepth 100000 in
set_option maxHeartbeats 4000000 in
theorem pRead_any (s : ByteArray) (hs : s.size ≤ 1000000) (hsm : ∀ L, readQ s.data.toList = some L → ∀ v ∈ L, v.2.2.length ≤ 2000) (w : World) : Calls Try.prog 10 #[.string s] w (PreadPost s w) := by
  have hlen : s.data.toList.length = s.size := by simp
  have HC := Lib.hid (fun (b : Int) (w : World) => take_any s (by unfold maxLen; omega) b w)
  have HCI := Lib.hid (fun (b : Int) (w : World) => takeI_any s hs b w)
  have HSM := Lib.hid hsm; have HSL := Lib.hid (And.intro hlen hs)
  clear hsm hlen hs
  cases hd : takeD s.data.toList 0 with
  | none =>
    have HF := Lib.hid (readQ_none hd)
    have HR := Lib.hid (takeR_none hd)
    clear hd
    go_enter Try.func10, Try.ntmps10
    go_wp2_with (go_at_call 30; (with_reducible refine (HC.out _ _).mono ?_); rintro e w' ⟨rfl, rfl⟩; rw [HR.out])
    refine take_ret (PreadPost.no HF.out (Below.refl _ _)) ?_
    simp [results, Try.results10, go_sem]
  | some x =>
    obtain ⟨m0, b0⟩ := x
    have hbd := takeD_bd hd
    have HR := Lib.hid (takeR_some hd)
    simp only at hbd
    obtain ⟨m, rfl⟩ : ∃ m : Nat, m0 = m := ⟨m0.toNat, by omega⟩
    by_cases h64 : (64 : Int) < (m : Int)
    · have HF := Lib.hid (readQ_many hd h64)
      clear hd hbd
      go_enter Try.func10, Try.ntmps10
      go_wp2_with (go_at_call 30; (with_reducible refine (HC.out _ _).mono ?_); rintro e w' ⟨rfl, rfl⟩; rw [HR.out])
      refine take_ret (PreadPost.no HF.out (Below.refl _ _)) ?_
      simp [results, Try.results10, go_sem]
    have HF := Lib.hid (readQ_go hd h64)
    have H64 := Lib.hid (show m ≤ 64 by omega)
    clear hd hbd
    go_enter Try.func10, Try.ntmps10
    go_wp2_with (go_at_call 30; (with_reducible refine (HC.out _ _).mono ?_); rintro e w' ⟨rfl, rfl⟩; rw [HR.out])
    clear h64
    go_loopw [25, 5, 7] (fun i a v wr => PrRel s w m b0 i a v wr) (fun i _ _ _ => m - (intOf i).toNat)
    case atStart => exact ⟨0, b0, [], [], Nat.zero_le _, rfl, rfl, OwnVols.none, rfl, RvAll.nil, by simp, Below.refl _ _⟩
    case round =>
      obtain ⟨k, c, x, L, hk, rfl, rfl, hown, hxl, hrv, hrd, hb⟩ := hrel
      have HO := Lib.hid hown; have HX := Lib.hid hxl; have HRV := Lib.hid hrv; have HRD := Lib.hid hrd; have HB := Lib.hid hb
      clear hown hxl hrv hrd hb
      by_cases hlt : k < m
      case neg =>
        obtain rfl : k = m := by omega
        have hmm : decide ((k : Int) < (k : Int)) = false := by simp
        have HF2 := Lib.hid (show readQ s.data.toList = if c = (s.data.toList.length : Int) then some L else none by
          rw [HF.out]; simp only [Int.toNat_natCast]
          rw [HRD.out, Nat.sub_self]
          simp only [readG, Option.map_some, List.append_nil])
        obtain ⟨pv, cv, hv, _⟩ := HO.out.at
        subst hv
        rw [HX.out]
        rw [HX.out] at HO
        by_cases hc : c = (s.size : Int)
        case neg =>
          have hne : (c != (s.size : Int)) = true := by rw [bne_iff_ne]; exact hc
          have HQ := Lib.hid (show readQ s.data.toList = none by rw [HF2.out, HSL.out.1, if_neg hc])
          clear hc
          go_wp2_with fail
          refine take_ret (PreadPost.no HQ.out HB.out) ?_
          simp [results, Try.results10, go_sem]
        have hne : (c != (s.size : Int)) = false := by rw [hc]; simp
        have HQ := Lib.hid (show readQ s.data.toList = some L by rw [HF2.out, HSL.out.1, if_pos hc])
        clear hc
        go_wp2_with fail
        refine (vMay_any x _ _ HO.out.at (HRV.out.small (HSM.out L HQ.out))).mono ?_
        rintro e w3 ⟨rfl, hb⟩
        have HB3 := Lib.hid (btrans HB.out hb); have HV3 := Lib.hid (HO.out.at.keep (keeps_below hb))
        clear hb
        cases hm : mayVB x with
        | false =>
          have HM := Lib.hid hm; clear hm
          go_wp2_with fail
          refine take_ret (PreadPost.out HQ.out HRV.out HM.out HB3.out) ?_
          simp [results, Try.results10, go_sem]
        | true =>
          have HM := Lib.hid hm; clear hm
          go_wp2_with fail
          refine take_ret (PreadPost.yes HQ.out HRV.out HM.out HV3.out HB3.out) ?_
          simp [results, Try.results10, go_sem]
      have hki : (k : Int) < (m : Int) := by omega
      have hwk : wrap64 ((k : Int) + 1) = (k : Int) + 1 := by have := H64.out; unfold wrap64; omega
      have HLT := Lib.hid hlt
      cases ht : takeI s.data.toList c with
      | none =>
        have HQ := Lib.hid (show readQ s.data.toList = none by rw [HF.out]; simp only [Int.toNat_natCast]; rw [readG_no1 hlt ht HRD.out])
        have HT := Lib.hid ht
        clear ht
        go_wp2_with (go_at_call 31; (with_reducible refine (HCI.out _ _).mono ?_); intro e w3 he; unfold TakeIEnd at he; rw [HT.out] at he; obtain ⟨rfl, hb⟩ := he)
        refine take_ret (PreadPost.no HQ.out (btrans HB.out hb)) ?_
        simp [results, Try.results10, go_sem]
      | some y =>
        have HT := Lib.hid ht
        obtain ⟨t1, t2⟩ := takeI_bd ht
        rw [HSL.out.1] at t1
        obtain ⟨nums, b2⟩ := y
        simp only at t1 t2
        have HNI := Lib.hid (show ∀ x ∈ nums, i64B x from fun x hx => by have := t2 x hx; unfold i64B; omega)
        have HNL := Lib.hid (show nums.length ≤ 1000000 from Nat.le_trans t1 HSL.out.2)
        clear ht t1 t2
        go_upto_region 8 with (go_at_call 31; (with_reducible refine (HCI.out _ _).mono ?_); intro e w3 he; unfold TakeIEnd at he; rw [HT.out] at he; obtain ⟨nv, rfl, hni, hb⟩ := he)
        have HIA := Lib.hid (show IntsAt w3 nv nums from ints_of_row HNI.out hni)
        have HB3 := Lib.hid (btrans HB.out hb); have HO3 := Lib.hid (HO.out.below hb)
        clear hni hb
        cases hv : volL nums with
        | none =>
          have HQ := Lib.hid (show readQ s.data.toList = none by rw [HF.out]; simp only [Int.toNat_natCast]; rw [readG_no2 hlt HT.out hv HRD.out])
          have HV := Lib.hid hv
          clear hv
          go_wp2_with (go_at_call 32; (with_reducible refine (pvol_any nums _ _ HIA.out HNL.out).mono ?_); intro e w4 he; unfold PvolPost at he; rw [HV.out] at he; obtain ⟨rfl, hb⟩ := he; have HB4 := Lib.hid (btrans HB3.out hb); clear hb)
          refine take_ret (PreadPost.no HQ.out (HB4.out.alloc HB4.out.size _)) ?_
          simp [results, Try.results10, go_sem]
        | some vv =>
          obtain ⟨vi, vs, vl⟩ := vv
          have HV := Lib.hid hv
          clear hv
          go_upto_region 11 with (go_at_call 32; (with_reducible refine (pvol_any nums _ _ HIA.out HNL.out).mono ?_); intro e w4 he; unfold PvolPost at he; rw [HV.out] at he; obtain ⟨t, a, b, c5, rfl, hg, hnd, hi1, hi2, hb⟩ := he; obtain ⟨qa, na, ca, qb, nb, cb, qc, nc, cc, rfl, rfl, rfl⟩ := node_slices hnd; have HB4 := Lib.hid (btrans HB3.out hb); have HO4 := Lib.hid (HO3.out.below hb); have HG := Lib.hid hg; have HND := Lib.hid hnd; have HI := Lib.hid (And.intro hi1 hi2); clear hb hg hnd hi1 hi2)
          obtain ⟨W5, hW5⟩ : ∃ W5, w4.alloc (.cells #[.int .i64 vi, .int .i64 vs, .slice qa na ca, .slice qb nb cb, .slice qc nc cc] 45) = W5 := ⟨_, rfl⟩
          have hb5 : Below w4.heap.size w4 W5 := by rw [← hW5]; exact (Below.refl _ _).alloc (Nat.le_refl _) _
          have HX5 := Lib.hid (show VBox w4.heap.size (.int .i64 vi) (.int .i64 vs) (.slice qa na ca) (.slice qb nb cb) (.slice qc nc cc) W5 by rw [← hW5]; exact ⟨by simp, by simp, by simp, by simp, by simp⟩)
          have HB5 := Lib.hid (btrans HB4.out hb5)
          obtain ⟨g6, c6, w6, hrun, hown6, hb6⟩ := vol_append W5 w.heap.size k _ x ⟨vi, vs, t⟩ _ _ _ (HO4.out.below hb5) HX.out (by have := H64.out; omega) HB5.out.size HI.out.1 HI.out.2 (ov_node (ov_lt HO3.out) hb5 HND.out)
          have HRUN := Lib.hid hrun; have HO6 := Lib.hid hown6; have HB6 := Lib.hid (HB5.out.trans hb6)
          have HRV6 := Lib.hid (show RvAll (x ++ [⟨vi, vs, t⟩]) (L ++ [(vi, vs, vl)]) from HRV.out.snoc ⟨rfl, rfl, HG.out⟩)
          have HRD6 := Lib.hid (readG_step hlt HT.out HV.out HRD.out)
          clear hrun hown6 hb6 hb5
          rw [hW5]
          clear hW5
          obtain ⟨x0, x1, x2, x3, x4⟩ := HX5.out
          go_wp2_with (at_builtin; refine Lib.wpList_append_run _ rfl _ _ _ _ rfl _ _ rfl rfl _ _ HRUN.out ?_)
          go_roundw
          case rel => exact ⟨k + 1, b2, _, _, by omega, by go_num, rfl, HO6.out, by rw [List.length_append, HX.out]; rfl, HRV6.out, HRD6.out, HB6.out⟩
          case measure => first | exact meas_step hlt | (have hm := meas_step hlt; rw [← hwk] at hm; exact hm)
end Go.Proofs.Ytpcmihgfcaelfaa
namespace Go.Proofs.Ytpcmihgfcaelfaa
open Go.RowKit

mutual
def nN : NodeD → Nat
  | .mk _ _ kids => 1 + nL kids
def nL : List NodeD → Nat
  | [] => 0
  | t :: ts => nN t + nL ts
end
theorem nN_pos (t : NodeD) : 1 ≤ nN t := by cases t; simp only [nN]; omega
theorem countL_eq (l : List NodeD) (hl : ∀ t ∈ l, ∀ m : Int, 1 ≤ m → countN t m = min m (nN t)) : ∀ n most : Int, 1 ≤ n → n ≤ most → countL l n most = min most (n + nL l) := by
  induction l with
  | nil => intro n most h1 h2; simp only [countL, nL]; omega
  | cons a l ih =>
    intro n most h1 h2
    have hp := nN_pos a
    simp only [countL, nL]
    split
    · rename_i h
      rw [hl a (by simp) (most - n) (by omega), ih (fun t ht => hl t (by simp [ht])) _ _ (by omega) (by omega)]
      push_cast; omega
    · push_cast; omega
theorem countN_eq (t : NodeD) : ∀ m : Int, 1 ≤ m → countN t m = min m (nN t) := by
  induction t using NodeD.ind with
  | h ks vs kids ih =>
    intro m hm
    simp only [countN, nN]
    rw [countL_eq kids ih 1 m (by omega) hm]; push_cast; omega
theorem few_pairs (t : NodeD) : fewB t = true → (pairsN t).length ≤ 30 * nN t := by
  induction t using NodeD.ind with
  | h ks vs kids ih =>
    intro h
    simp only [fewB, fewL_all, Bool.and_eq_true, decide_eq_true_eq, List.all_eq_true] at h
    have hl : ∀ l : List NodeD, (∀ t ∈ l, (pairsN t).length ≤ 30 * nN t) → (pairsL l).length ≤ 30 * nL l := fun l => by
      induction l with
      | nil => intro _; simp [nL, pairsL]
      | cons a l ih2 =>
        intro hx
        have h1 := hx a (by simp)
        have h2 := ih2 (fun t ht => hx t (by simp [ht]))
        simp only [nL, pairsL, List.length_append]; omega
    have hk := hl kids (fun t ht => ih t ht (by simp_all))
    simp only [nN, pairsN, List.length_append]
    have hz : (if kids.length = 0 then ks.zip vs else []).length ≤ ks.length := by
      split
      · rw [List.length_zip]; omega
      · simp
    omega
theorem smallV_tree {d : VoD} (h : smallV d = true) : SmallTree d.map := by
  unfold smallV smallN at h
  simp only [Bool.and_eq_true, decide_eq_true_eq] at h
  obtain ⟨⟨_, h2⟩, h3⟩ := h
  rw [countN_eq d.map 60 (by omega)] at h3
  have h4 := few_pairs d.map h2
  unfold SmallTree; omega
theorem smallVs_trees {l : List VoD} (h : smallVs l = true) : SmallTrees l := by
  unfold smallVs at h
  simp only [Bool.and_eq_true, List.all_eq_true] at h
  exact fun d hd => smallV_tree (h.1 d hd)
theorem sized_pairs (t : NodeD) : ∀ low : Int, sizedN t low = true → (pairsN t).length ≤ 4 * nN t := by
  induction t using NodeD.ind with
  | h ks vs kids ih =>
    intro low h
    simp only [sizedN, Bool.and_eq_true, decide_eq_true_eq] at h
    have hl : ∀ l : List NodeD, (∀ t ∈ l, (pairsN t).length ≤ 4 * nN t) → (pairsL l).length ≤ 4 * nL l := fun l => by
      induction l with
      | nil => intro _; simp [nL, pairsL]
      | cons a l ih2 =>
        intro hx
        have h1 := hx a (by simp)
        have h2 := ih2 (fun t ht => hx t (by simp [ht]))
        simp only [nL, pairsL, List.length_append]; omega
    simp only [nN, pairsN, List.length_append]
    by_cases hk : kids.length = 0
    · rw [if_pos hk]
      have e : kids = [] := List.eq_nil_of_length_eq_zero hk
      subst e
      simp only [pairsL, nL, List.length_nil, List.length_zip]
      omega
    · rw [if_neg hk] at h ⊢
      simp only [Bool.and_eq_true, decide_eq_true_eq] at h
      have h3 := (sizedL_iff kids ks).1 h.2.2
      have hk := hl kids (fun t ht => by
        obtain ⟨j, hj⟩ := List.getElem?_of_mem ht
        exact ih t ht 2 (h3 j t hj).1)
      simp only [List.length_nil]; omega
/-- a small tree that may be has few pairs -/
theorem small_right {d : VoD} (h : smallV d = true) (h2 : rightN d = true) : (pairsN d.map).length ≤ 240 := by
  unfold smallV smallN at h
  simp only [Bool.and_eq_true, decide_eq_true_eq] at h
  obtain ⟨⟨_, _⟩, h3⟩ := h
  rw [countN_eq d.map 60 (by omega)] at h3
  unfold rightN mayN at h2
  simp only [Bool.and_eq_true] at h2
  have := sized_pairs d.map 0 h2.1.2.1.2
  omega
end Go.Proofs.Ytpcmihgfcaelfaa
namespace Go.Proofs.Ytpcmihgfcaelfaa
open Go.RowKit

theorem prsOf_flat : ∀ l : List PairD, prsOf (flatP l) = l
  | [] => rfl
  | x :: l => by simp only [flatP, prsOf, prsOf_flat l]
theorem flat_prsOf : ∀ r : List Int, r.length % 2 = 0 → flatP (prsOf r) = r
  | [], _ => rfl
  | [a], h => by simp at h
  | a :: b :: r, h => by
    simp only [prsOf, flatP]
    rw [flat_prsOf r (by simp only [List.length_cons] at h; omega)]
def numsR (v : RvD) : List Int := v.1 :: v.2.1 :: flatP v.2.2
def rvOf (d : VoD) : RvD := (d.id, d.size, pairsN d.map)
theorem numsR_of (d : VoD) : numsR (rvOf d) = numsV d := rfl
theorem volL_told {n : List Int} {v : RvD} (h : volL n = some v) : n = numsR v ∧ riseB v.2.2 = true := by
  match n, h with
  | i :: s :: r, h =>
    change (if r.length % 2 = 0 ∧ riseB (prsOf r) = true then some (i, s, prsOf r) else none) = some v at h
    split at h
    · rename_i h1
      simp only [Option.some.injEq] at h
      subst h
      unfold numsR
      rw [flat_prsOf r h1.1]
      exact ⟨rfl, h1.2⟩
    · simp at h
theorem volL_nums {v : RvD} (h : riseB v.2.2 = true) : volL (numsR v) = some v := by
  obtain ⟨i, s, l⟩ := v
  change (if (flatP l).length % 2 = 0 ∧ riseB (prsOf (flatP l)) = true then some (i, s, prsOf (flatP l)) else none) = some (i, s, l)
  simp only at h
  rw [prsOf_flat, if_pos ⟨by rw [flatP_len]; omega, h⟩]
/-- forth: numbers told are taken -/
theorem takeN_num : ∀ (l : List Int) (a rest : List UInt8), (∀ x ∈ l, numOk x = true) → takeN (a ++ (l.map numS).flatten ++ rest) l.length a.length = some (l, (((a ++ (l.map numS).flatten).length : Nat) : Int))
  | [], a, rest, _ => by simp [takeN]
  | x :: l, a, rest, h => by
    have hx := h x (by simp)
    unfold numOk at hx
    simp only [Bool.and_eq_true, decide_eq_true_eq] at hx
    have e : a ++ ((x :: l).map numS).flatten ++ rest = a ++ numS x ++ ((l.map numS).flatten ++ rest) := by simp
    have ih := takeN_num l (a ++ numS x) rest (fun y hy => h y (by simp [hy]))
    rw [List.length_cons, takeN, e, takeD_num a _ hx]
    simp only
    rw [show a ++ numS x ++ ((l.map numS).flatten ++ rest) = a ++ numS x ++ (l.map numS).flatten ++ rest by simp, ← List.length_append, ih]
    simp
theorem flat_num_ge : ∀ l : List Int, (∀ x ∈ l, numOk x = true) → l.length ≤ ((l.map numS).flatten).length
  | [], _ => Nat.zero_le _
  | x :: l, h => by
    have h1 := flat_num_ge l (fun y hy => h y (by simp [hy]))
    have hx : 1 ≤ (numS x).length := by
      rcases Nat.eq_zero_or_pos (numS x).length with h0 | h0
      · have := numS_ok.1 (List.eq_nil_of_length_eq_zero h0)
        rw [h x (by simp)] at this; exact absurd this (by simp)
      · exact h0
    rw [List.map_cons, List.flatten_cons, List.length_append, List.length_cons]; omega
theorem takeI_ints (l : List Int) (a rest : List UInt8) (h : ∀ x ∈ l, numOk x = true) (hl : l.length ≤ 1000000) : takeI (a ++ intsS l ++ rest) a.length = some (l, (((a ++ intsS l).length : Nat) : Int)) := by
  have e : intsS l = numS l.length ++ (l.map numS).flatten := by
    unfold intsS intsG; rw [if_pos (by rw [List.all_eq_true]; exact h)]
  have h1 := flat_num_ge l h
  rw [e]
  have e2 : a ++ (numS (l.length : Nat) ++ (l.map numS).flatten) ++ rest = a ++ numS (l.length : Nat) ++ ((l.map numS).flatten ++ rest) := by simp
  rw [e2]
  have hd := takeD_num a ((l.map numS).flatten ++ rest) (n := (l.length : Nat)) ⟨by omega, by omega⟩
  rw [takeI_cut hd (by simp only [List.length_append]; push_cast; omega)]
  simp only [Int.toNat_natCast]
  have := takeN_num l (a ++ numS (l.length : Nat)) rest h
  rw [List.length_append] at this
  rw [show a ++ numS (l.length : Nat) ++ ((l.map numS).flatten ++ rest) = a ++ numS (l.length : Nat) ++ (l.map numS).flatten ++ rest by simp, this]
  simp
def textR (L : List RvD) : List UInt8 := (L.map fun v => intsS (numsR v)).flatten
theorem volsS_rv : ∀ l : List VoD, volsS l = textR (l.map rvOf)
  | [] => rfl
  | d :: l => by
    unfold textR
    rw [List.map_cons, List.map_cons, List.flatten_cons, volsS, numsR_of, volsS_rv l]; rfl
/-- a volume read whose numbers can be told -/
def RvOk (v : RvD) : Prop := (∀ x ∈ numsR v, numOk x = true) ∧ riseB v.2.2 = true ∧ (numsR v).length ≤ 1000000
theorem readG_text : ∀ (L : List RvD) (a rest : List UInt8), (∀ v ∈ L, RvOk v) → readG (a ++ textR L ++ rest) L.length a.length = some (L, (((a ++ textR L).length : Nat) : Int))
  | [], a, rest, _ => by simp [readG, textR]
  | v :: L, a, rest, h => by
    obtain ⟨h1, h2, h3⟩ := h v (by simp)
    have ih := readG_text L (a ++ intsS (numsR v)) rest (fun y hy => h y (by simp [hy]))
    have e0 : textR (v :: L) = intsS (numsR v) ++ textR L := by unfold textR; simp
    have e : a ++ textR (v :: L) ++ rest = a ++ intsS (numsR v) ++ (textR L ++ rest) := by rw [e0]; simp
    rw [List.length_cons, readG, e, takeI_ints _ a _ h1 h3]
    simp only [volL_nums h2]
    rw [show a ++ intsS (numsR v) ++ (textR L ++ rest) = a ++ intsS (numsR v) ++ textR L ++ rest by simp, ih, e0]
    simp
theorem readQ_text (L : List RvD) (h : ∀ v ∈ L, RvOk v) (hl : L.length ≤ 64) : readQ (numS L.length ++ textR L) = some L := by
  have hd := takeD_num [] (textR L) (n := (L.length : Nat)) ⟨by omega, by omega⟩
  rw [List.nil_append] at hd
  rw [readQ_go hd (by simp only; omega)]
  simp only [Int.toNat_natCast]
  have := readG_text L (numS (L.length : Nat)) [] h
  rw [List.append_nil] at this
  simp only [List.length_nil, Nat.zero_add]
  rw [this]
  simp
/-- back: what is taken is told by just these bytes -/
theorem takeD_told {s : List UInt8} {a : Int} {x : Int × Int} (h : takeD s a = some x) : s.take x.2.toNat = s.take a.toNat ++ numS x.1 := by
  have hb := takeD_bd h
  unfold takeD at h
  split at h
  · rename_i h0
    rw [Option.map_eq_some_iff] at h
    obtain ⟨y, hy, rfl⟩ := h
    have h1 := takeGo_told (s.drop a.toNat) [] 6 (x := y) (by simp) (by simpa [valL] using hy)
    rw [List.nil_append] at h1
    have e : numS ((y.1 : Nat) : Int) = numL y.1 := by
      unfold numS
      simp only at hb
      rw [if_pos (by omega)]; rfl
    simp only
    rw [e, h1, show (a + (y.2 : Int)).toNat = a.toNat + y.2 by omega, List.take_add]
  · simp at h
theorem takeN_told {s : List UInt8} : ∀ (k : Nat) (a : Int) {x : List Int × Int}, takeN s k a = some x → s.take x.2.toNat = s.take a.toNat ++ (x.1.map numS).flatten
  | 0, a, x, h => by simp only [takeN, Option.some.injEq] at h; subst h; simp
  | k + 1, a, x, h => by
    rw [takeN] at h
    cases hd : takeD s a with
    | none => rw [hd] at h; simp at h
    | some z =>
      rw [hd] at h
      simp only [Option.map_eq_some_iff] at h
      obtain ⟨u, hu, rfl⟩ := h
      simp only
      rw [takeN_told k z.2 hu, takeD_told hd]; simp
theorem num_ok_bd {x : Int} (h : 0 ≤ x ∧ x < 1099511627776) : numOk x = true := by unfold numOk; simp; omega
theorem takeI_told {s : List UInt8} {a : Int} {x : List Int × Int} (h : takeI s a = some x) : s.take x.2.toNat = s.take a.toNat ++ intsS x.1 := by
  have hb := takeI_bd h
  unfold takeI at h
  cases hd : takeD s a with
  | none => rw [hd] at h; simp at h
  | some z =>
    rw [hd] at h
    simp only at h
    have h2 := takeD_bd hd
    split at h
    · simp at h
    · have h1 := takeN_bd _ _ h
      rw [takeN_told _ _ h, takeD_told hd]
      have e : intsS x.1 = numS z.1 ++ (x.1.map numS).flatten := by
        unfold intsS intsG
        rw [if_pos (by rw [List.all_eq_true]; exact fun y hy => num_ok_bd (hb.2 y hy)), h1.1, Int.toNat_of_nonneg h2.1]
      rw [e]; simp
theorem readG_told {s : List UInt8} : ∀ (n : Nat) (a : Int) {y : List RvD × Int}, readG s n a = some y → s.take y.2.toNat = s.take a.toNat ++ textR y.1 ∧ y.1.length = n
  | 0, a, y, h => by simp only [readG, Option.some.injEq] at h; subst h; simp [textR]
  | n + 1, a, y, h => by
    rw [readG] at h
    cases hd : takeI s a with
    | none => rw [hd] at h; simp at h
    | some x =>
      rw [hd] at h
      simp only at h
      cases hv : volL x.1 with
      | none => rw [hv] at h; simp at h
      | some v =>
        rw [hv] at h
        simp only [Option.map_eq_some_iff] at h
        obtain ⟨u, hu, rfl⟩ := h
        have ih := readG_told n x.2 hu
        refine ⟨?_, by simp [ih.2]⟩
        simp only
        rw [ih.1, takeI_told hd, (volL_told hv).1]
        unfold textR; simp
theorem readQ_told {s : List UInt8} {L : List RvD} (h : readQ s = some L) : s = numS L.length ++ textR L := by
  cases hd : takeD s 0 with
  | none => rw [readQ_none hd] at h; simp at h
  | some x =>
    have hb := takeD_bd hd
    by_cases h64 : 64 < x.1
    · rw [readQ_many hd h64] at h; simp at h
    · rw [readQ_go hd h64] at h
      cases hg : readG s x.1.toNat x.2 with
      | none => rw [hg] at h; simp at h
      | some y =>
        rw [hg] at h
        simp only at h
        split at h
        · rename_i he
          simp only [Option.some.injEq] at h
          subst h
          have h1 := readG_told _ _ hg
          have h2 := takeD_told hd
          rw [he] at h1
          rw [h1.2, Int.toNat_of_nonneg hb.1]
          have h3 := h1.1
          rw [h2, Int.toNat_natCast, List.take_length] at h3
          simpa using h3
        · simp at h
/-- how many pairs a volume read has -/
theorem readG_few {s : List UInt8} : ∀ (n : Nat) (a : Int) {y : List RvD × Int}, readG s n a = some y → ∀ v ∈ y.1, v.2.2.length ≤ s.length
  | 0, a, y, h => by simp only [readG, Option.some.injEq] at h; subst h; intro v hv; simp at hv
  | n + 1, a, y, h => by
    rw [readG] at h
    cases hd : takeI s a with
    | none => rw [hd] at h; simp at h
    | some x =>
      rw [hd] at h
      simp only at h
      cases hv : volL x.1 with
      | none => rw [hv] at h; simp at h
      | some v =>
        rw [hv] at h
        simp only [Option.map_eq_some_iff] at h
        obtain ⟨u, hu, rfl⟩ := h
        intro q hq
        rw [List.mem_cons] at hq
        rcases hq with rfl | hq
        · have h1 := (takeI_bd hd).1
          rw [(volL_told hv).1] at h1
          unfold numsR at h1
          simp only [List.length_cons, flatP_len] at h1
          omega
        · exact readG_few n x.2 hu q hq
theorem readQ_few {s : List UInt8} {L : List RvD} (h : readQ s = some L) : ∀ v ∈ L, v.2.2.length ≤ s.length := by
  cases hd : takeD s 0 with
  | none => rw [readQ_none hd] at h; simp at h
  | some x =>
    by_cases h64 : 64 < x.1
    · rw [readQ_many hd h64] at h; simp at h
    · rw [readQ_go hd h64] at h
      cases hg : readG s x.1.toNat x.2 with
      | none => rw [hg] at h; simp at h
      | some y =>
        rw [hg] at h
        simp only at h
        split at h
        · simp only [Option.some.injEq] at h
          subst h
          exact readG_few _ _ hg
        · simp at h
end Go.Proofs.Ytpcmihgfcaelfaa
