/- The walks of request.Fill and of the reference's: which texts are fillings, and their bytes; only new memory is written. -/
import Derived.Test.YtolegljmaacabaaDoorReqA
import Derived.Test.YtolegljmaacabaaDoorOwn
import Derived.Test.YtolegljmaacabaaDoorShelf
import Derived.Outline
namespace Go.Proofs.YtolegljmaacabaaDoor
open Go.RowKit

def nextX (x : Nat) : Nat := (x * 1103515245 + 12345) % 2147483648
def seqX (x : Nat) : Nat → Nat
  | 0 => x
  | k + 1 => nextX (seqX x k)
def byteX (x : Nat) : UInt8 := UInt8.ofNat (x / 65536 % 256)
def genX (x : Nat) : Nat → List UInt8
  | 0 => []
  | k + 1 => genX x k ++ [byteX (seqX x (k + 1))]
def rep256 (b : UInt8) : List UInt8 := List.replicate 256 b
def fillL (l : List UInt8) : Option (List UInt8) :=
  match l with
  | [] => none
  | [b] => if 97 ≤ b.toNat ∧ b.toNat ≤ 122 then some (rep256 b) else none
  | b :: r => if b = 114 ∧ numB r = true then some (genX (valL r) 256) else none
theorem seqX_lt {x : Nat} (h : x < 2147483648) : ∀ k, seqX x k < 2147483648
  | 0 => h
  | k + 1 => by unfold seqX nextX; omega
theorem genX_length (x : Nat) : ∀ k, (genX x k).length = k
  | 0 => rfl
  | k + 1 => by simp [genX, genX_length x k]
theorem byteX_toNat (x : Nat) : (byteX x).toNat = x / 65536 % 256 := by unfold byteX; rw [UInt8.toNat_ofNat']; omega

theorem cast_next (y : Nat) : (((y * 1103515245 + 12345) % 2147483648 : Nat) : Int) = ((y : Int) * 1103515245 + 12345) % 2147483648 := by omega
theorem cast_byte (y : Nat) : ((((y * 1103515245 + 12345) % 2147483648) / 65536 % 256 : Nat) : Int) = ((y : Int) * 1103515245 + 12345) % 2147483648 / 65536 % 256 := by
  have h := cast_next y
  rw [← h]
  generalize (y * 1103515245 + 12345) % 2147483648 = z
  omega
def FEnd (s : ByteArray) (w : World) (e : Ending) (w' : World) : Prop := e = .returned (.tuple #[.string ⟨((fillL s.data.toList).getD []).toArray⟩, .bool (fillL s.data.toList).isSome]) ∧ Below w.heap.size w w'

theorem infoU8 : (Tryd.prog.info? 5).map (fun i => (i.zero, i.size, i.bytes)) = some (some (.int .u8 0), 1, 1) := by kernel_rfl

def GRel (x0 : Nat) (w : World) (x v i : Value) (wr : World) : Prop := ∃ k : Nat, k ≤ 256 ∧ i = .int .i64 k ∧ x = .int .i64 (seqX x0 k : Nat) ∧ wr.ownsRow w.heap.size 5 1 v k (bytesV (genX x0 k)) ∧ Below w.heap.size w wr
theorem grel_step {x0 k : Nat} {w wr w1 : World} {v v1 : Value} {o : Obj} (hk : k < 256) (hown : wr.ownsRow w.heap.size 5 1 v k (bytesV (genX x0 k))) (hb : Below w.heap.size w wr)
    (hown1 : w1.ownsRow w.heap.size 5 1 v1 (k + 1) (bytesV (genX x0 k) ++ [.int .u8 ((nextX (seqX x0 k) / 65536 % 256 : Nat))])) (hg : (wr.alloc o).grownBy w1 v.ownBlock) :
    GRel x0 w (.int .i64 (nextX (seqX x0 k) : Nat)) v1 (.int .i64 ((k : Int) + 1)) w1 := by
  refine ⟨k + 1, hk, by go_num, rfl, ?_, ow_grown hb hb.size hown hg⟩
  have e := byteX_toNat (seqX x0 (k + 1))
  have e2 : seqX x0 (k + 1) = nextX (seqX x0 k) := rfl
  rw [e2] at e
  rw [← e, bytesV_snoc] at hown1
  exact hown1

theorem fill_gen {s : ByteArray} (b : UInt8) (r : List UInt8) (hl : s.data.toList = b :: r) (h2 : 1 ≤ r.length) : fillL s.data.toList = if b = 114 ∧ numB r = true then some (genX (valL r) 256) else none := by
  rw [hl]
  match r, h2 with
  | c :: r, _ => rfl

theorem one_data {s : ByteArray} (h : s.size = 1) (p : 0 < s.size) : s.data.toList = [s[0]] := by
  have hl : s.data.toList.length = 1 := by simpa using h
  match hd : s.data.toList, hl with
  | [b], _ =>
    have : s.data.toList.head? = some s[0] := head_at p
    rw [hd] at this
    simp at this
    rw [this]
theorem tail_data {s : ByteArray} (h : 0 < s.size) : s.data.toList = s[0] :: (s.extract 1 s.size).data.toList := by
  have e := head_at h
  have e2 : (s.extract 1 s.size).data.toList = s.data.toList.drop 1 := by
    rw [Lib.extract_data]; exact List.take_of_length_le (by simp)
  rw [e2]
  cases hd : s.data.toList with
  | nil => rw [hd] at e; simp at e
  | cons b r => rw [hd] at e; simp at e; rw [e]; rfl
theorem repeatL_one (b : UInt8) : ∀ c, Lib.repeatL [b] c = List.replicate c b
  | 0 => rfl
  | c + 1 => by show [b] ++ _ = _; rw [repeatL_one b c]; rfl

set_option maxRecDepth 100000 in
set_option maxHeartbeats 1000000 in
theorem fill_any (s : ByteArray) (hs : s.size ≤ maxLen) (w : World) : Calls Tryd.prog 10 #[.string s] w (FEnd s w) := by
  have hno : fillL s.data.toList = none → FEnd s w (.returned (.tuple #[.string ⟨#[]⟩, .bool false])) w := by
    intro h; unfold FEnd; rw [h]; exact ⟨rfl, Below.refl _ _⟩
  have HNO := Lib.hid hno; clear hno
  have HSZ := Lib.hid hs
  unfold maxLen at hs
  rcases Nat.lt_or_ge s.size 1 with h0 | h0
  · have e0 : s.data.toList = [] := by
      have h2 : s.data.toList.length = s.size := by simp
      have : s.data.toList.length = 0 := by omega
      exact List.length_eq_zero_iff.1 this
    have HL := Lib.hid (HNO.out (by rw [e0]; rfl)); clear e0
    have d1 : ((s.size : Int) == 1) = false := by simp; omega
    have d2 : decide ((s.size : Int) < 2) = true := by simp; omega
    go_enter Tryd.func10, Tryd.ntmps10
    go_wp2_with fail
    go_ret2
    exact HL.out
  · have p0 : 0 < s.size := h0
    by_cases h1 : s.size = 1
    · have e1 := one_data h1 p0
      have d1 : ((s.size : Int) == 1) = true := by rw [h1]; rfl
      by_cases hb : 97 ≤ s[0].toNat ∧ s[0].toNat ≤ 122
      · have hf : fillL s.data.toList = some (rep256 s[0]) := by rw [e1]; exact if_pos hb
        have hrep := Tryd.strings_Repeat s 256 w (by omega) (by omega)
        rw [e1, repeatL_one, show List.replicate 256 s[0] = rep256 s[0] from rfl] at hrep
        have hfin : ∀ w', Below w.heap.size w w' → FEnd s w (.returned (.tuple #[.string ⟨(rep256 s[0]).toArray⟩, .bool true])) w' := by
          intro w' hb; unfold FEnd; rw [hf]; exact ⟨rfl, hb⟩
        have HR := Lib.hid hrep; have HF := Lib.hid hfin; clear hrep hfin hf e1 h1
        obtain ⟨b1, b2⟩ := hb
        have b3 : (97 : Int) ≤ (s[0].toNat : Int) := by omega
        have b4 : (s[0].toNat : Int) ≤ 122 := by omega
        clear b1 b2
        go_enter Tryd.func10, Tryd.ntmps10
        go_wp2_with fail
        refine HR.out.mono ?_
        rintro e w1 ⟨rfl, hb⟩
        have HB := Lib.hid hb; clear hb
        go_wp2_with fail
        go_ret2
        exact HF.out _ HB.out
      · have HL := Lib.hid (HNO.out (by rw [e1]; exact if_neg hb))
        have d2 : decide ((s.size : Int) < 2) = true := by simp; omega
        have hb' : (s[0].toNat : Int) < 97 ∨ (122 : Int) < (s[0].toNat : Int) := by omega
        clear hb e1 h1
        rcases hb' with hb | hb
        all_goals
          go_enter Tryd.func10, Tryd.ntmps10
          go_wp2_with fail
          go_ret2
          exact HL.out
    · have d1 : ((s.size : Int) == 1) = false := by simp; omega
      have d2 : decide ((s.size : Int) < 2) = false := by simp; omega
      have ht := tail_data p0
      have hr : 1 ≤ (s.extract 1 s.size).data.toList.length := by simp; omega
      have hg := fill_gen s[0] _ ht hr
      have HG := Lib.hid hg; clear hg ht hr
      have p1 : 1 ≤ s.size := p0
      by_cases hb : s[0] = 114
      · have b1 : ((s[0].toNat : Int) != 114) = false := by rw [hb]; rfl
        have hnum := number_any (s.extract 1 s.size) (by unfold maxLen; simp [ByteArray.size_extract]; omega) w
        cases hn : numB (s.extract 1 s.size).data.toList
        · have HL := Lib.hid (HNO.out (by rw [HG.out, hn]; simp))
          unfold NEnd at hnum
          rw [hn] at hnum
          have HN := Lib.hid hnum; clear hnum hn hb
          go_enter Tryd.func10, Tryd.ntmps10
          go_wp2_with fail
          refine HN.out.mono ?_
          rintro e w' ⟨rfl, rfl⟩
          go_wp2_with fail
          go_ret2
          exact HL.out
        · have hf : fillL s.data.toList = some (genX (valL (s.extract 1 s.size).data.toList) 256) := by rw [HG.out, hn, hb]; simp
          unfold NEnd numV at hnum
          rw [hn] at hnum
          simp only [if_true] at hnum
          have hv : valL (s.extract 1 s.size).data.toList < 2147483648 := by
            have hd : ∀ b ∈ (s.extract 1 s.size).data.toList, dig b = true := by
              have := hn; unfold numB at this; simp only [Bool.and_eq_true, List.all_eq_true] at this; exact this.1.2
            have h9 : (s.extract 1 s.size).data.toList.length ≤ 9 := by
              have := hn; unfold numB at this; simp only [Bool.and_eq_true, decide_eq_true_eq] at this; exact this.1.1.2
            have := valL_lt hd h9; omega
          have HN := Lib.hid hnum; clear hnum hn hb
          obtain ⟨i0, hi, hz0, hz1, hz2⟩ := info_parts infoU8
          obtain ⟨w1, hmk, hown0, hg0⟩ := run_make_own (P := Tryd.prog) w w.heap.size 40 5 i0 (.int .u8 0) 1 Tryd.underlying40 hi hz0 hz1 .i64 .i64 256 (by rw [hz2]; omega) (by unfold maxLen; omega) (Nat.le_refl _)
          have hmk' : (Instr.makeSlice 40 (.int .i64 0) (.int .i64 256)).run Tryd.prog w = .ok (.slice (some ⟨w.heap.size, 0, none⟩) 0 256) w1 := hmk
          clear hmk
          have hbel0 : Below w.heap.size w w1 := (Below.refl _ _).grown hg0 (Nat.le_refl _) (fun k e => by cases e)
          have HO := Lib.hid hown0; have HB := Lib.hid hbel0; have HF := Lib.hid hf; clear hown0 hg0 hbel0 hf
          generalize hx : valL (s.extract 1 s.size).data.toList = x at *
          clear hx
          go_enter Tryd.func10, Tryd.ntmps10
          go_wp2_with fail
          refine HN.out.mono ?_
          rintro e w' ⟨rfl, rfl⟩
          go_wp2_with fail
          go_loopw [4, 6, 39] (fun xx v i wr => GRel x w xx v i wr) (fun _ _ i _ => 256 - (intOf i).toNat)
          case atStart => exact ⟨0, by omega, rfl, rfl, HO.out, HB.out⟩
          case round =>
            obtain ⟨k, hk, rfl, rfl, hown, hbel⟩ := hrel
            have hlt := seqX_lt hv k
            by_cases hk2 : k < 256
            · have HO1 := Lib.hid hown; have HB1 := Lib.hid hbel
              have hst := fun (v1 : Value) (w1 : World) (o : Obj) => grel_step (v1 := v1) (w1 := w1) (o := o) hk2 hown hbel
              have HST := Lib.hid hst
              have hs' := hbel.size
              clear hown hbel hst
              unfold nextX at HST
              generalize seqX x k = y at *
              go_wp2_with (at_builtin; refine wpList_append_own _ rfl (.tmp 45) (.tmp 50) 40 rfl w.heap.size 5 i0 (.int .u8 0) 1 1 Tryd.underlying40 hi hz0 hz1 hz2 rfl (by decide) _ _ _ rfl (HO1.out.alloc _) ⟨wr.heap.size, 0, none⟩ 1 1 [_] rfl rfl (cell_one_new _ _ _) (by simp [Value.oneCell']) (by unfold maxLen; omega) (by omega) (by simp; omega) ?_; intro v1 w1 hown1 hg1 _)
              refine ⟨?_, by simp [intOf]; omega⟩
              have h := HST.out v1 w1 _ (by
                have e : ((((y * 1103515245 + 12345) % 2147483648) / 65536 % 256 : Nat) : Int) = ((y : Int) * 1103515245 + 12345) % 2147483648 / 65536 % 256 := cast_byte y
                rw [e]; exact hown1) hg1
              have e2 : (((y * 1103515245 + 12345) % 2147483648 : Nat) : Int) = ((y : Int) * 1103515245 + 12345) % 2147483648 := cast_next y
              rw [e2] at h
              exact h
            · obtain rfl : k = 256 := by omega
              obtain ⟨g, cap, rfl⟩ := ownsRow_succ hown
              have hl := genX_length x 256
              have htx : (convert 40 9 (.slice (some ⟨g, 0, none⟩) 256 cap)).run Tryd.prog wr = .ok (.string ⟨(genX x 256).toArray⟩) wr := by
                have h := ow_text (P := Tryd.prog) (w := wr) (B := w.heap.size) (g := g) (cap := cap) (l := genX x 256) Tryd.underlying40 Tryd.underlying5 Tryd.underlying9 (by rw [hl]; exact hown)
                rwa [hl] at h
              have hfin : FEnd s w (.returned (.tuple #[.string ⟨(genX x 256).toArray⟩, .bool true])) wr := by unfold FEnd; rw [HF.out]; exact ⟨rfl, hbel⟩
              have HFI := Lib.hid hfin
              clear hown hbel hl hfin hlt
              generalize genX x 256 = t at *
              go_wp2_with fail
              go_ret2
              exact HFI.out
      · have HL := Lib.hid (HNO.out (by rw [HG.out]; simp [hb]))
        have b1 : ((s[0].toNat : Int) != 114) = true := by
          rw [bne_iff_ne]; intro e
          exact hb (UInt8.toNat_inj.1 (by simpa using (Int.ofNat.inj e)))
        clear hb
        go_enter Tryd.func10, Tryd.ntmps10
        go_wp2_with fail
        go_ret2
        exact HL.out
def LRel (b : UInt8) (w : World) (v i : Value) (wr : World) : Prop := ∃ k : Nat, k ≤ 256 ∧ i = .int .i64 k ∧ wr.ownsRow w.heap.size 5 1 v k (bytesV (List.replicate k b)) ∧ Below w.heap.size w wr
theorem lrel_step {b : UInt8} {k : Nat} {w wr w1 : World} {v v1 : Value} {o : Obj} (hk : k < 256) (hown : wr.ownsRow w.heap.size 5 1 v k (bytesV (List.replicate k b))) (hb : Below w.heap.size w wr)
    (hown1 : w1.ownsRow w.heap.size 5 1 v1 (k + 1) (bytesV (List.replicate k b) ++ [.int .u8 (b.toNat : Nat)])) (hg : (wr.alloc o).grownBy w1 v.ownBlock) :
    LRel b w v1 (.int .i64 ((k : Int) + 1)) w1 := by
  refine ⟨k + 1, hk, by go_num, ?_, ow_grown hb hb.size hown hg⟩
  rw [List.replicate_succ', ← bytesV_snoc]
  exact hown1

set_option maxRecDepth 100000 in
set_option maxHeartbeats 1000000 in
theorem rfill_any (s : ByteArray) (hs : s.size ≤ maxLen) (w : World) : Calls Tryd.prog 11 #[.string s] w (FEnd s w) := by
  have hno : fillL s.data.toList = none → ∀ wr, Below w.heap.size w wr → FEnd s w (.returned (.tuple #[.string ⟨#[]⟩, .bool false])) wr := by
    intro h wr hb; unfold FEnd; rw [h]; exact ⟨rfl, hb⟩
  have HNO := Lib.hid hno; clear hno
  have b0 : Below w.heap.size w (w.alloc (.cells #[] 5)) := (Below.refl _ _).alloc (Nat.le_refl _) _
  have B0 := Lib.hid b0; clear b0
  have o0 : (w.alloc (.cells #[] 5)).ownsRow w.heap.size 5 1 (.slice (some ⟨w.heap.size, 0, none⟩) 0 0) 0 [] := World.ownsRow_made w #[] 0 (Nat.le_refl _) (by unfold maxLen; omega) rfl
  have O0 := Lib.hid o0; clear o0
  obtain ⟨i0, hi, hz0, hz1, hz2⟩ := info_parts infoU8
  unfold maxLen at hs
  rcases Nat.lt_or_ge s.size 1 with h0 | h0
  · have e0 : s.data.toList = [] := by
      have h2 : s.data.toList.length = s.size := by simp
      have : s.data.toList.length = 0 := by omega
      exact List.length_eq_zero_iff.1 this
    have HL := Lib.hid (HNO.out (by rw [e0]; rfl) _ B0.out); clear e0
    have d1 : ((s.size : Int) == 1) = false := by simp; omega
    have d2 : decide ((s.size : Int) < 2) = true := by simp; omega
    go_enter Tryd.func11, Tryd.ntmps11
    go_wp2_with fail
    go_ret2
    exact HL.out
  · have p0 : 0 < s.size := h0
    by_cases h1 : s.size = 1
    · have e1 := one_data h1 p0
      have d1 : ((s.size : Int) == 1) = true := by rw [h1]; rfl
      by_cases hb : 97 ≤ s[0].toNat ∧ s[0].toNat ≤ 122
      · have hf : fillL s.data.toList = some (rep256 s[0]) := by rw [e1]; exact if_pos hb
        have hfin : ∀ w', Below w.heap.size w w' → FEnd s w (.returned (.tuple #[.string ⟨(rep256 s[0]).toArray⟩, .bool true])) w' := by
          intro w' hb; unfold FEnd; rw [hf]; exact ⟨rfl, hb⟩
        have HF := Lib.hid hfin; clear hfin hf e1 h1
        obtain ⟨b1, b2⟩ := hb
        have b3 : (97 : Int) ≤ (s[0].toNat : Int) := by omega
        have b4 : (s[0].toNat : Int) ≤ 122 := by omega
        clear b1 b2
        go_enter Tryd.func11, Tryd.ntmps11
        go_wp2_with fail
        go_loopw [4, 5] (fun v i wr => LRel s[0] w v i wr) (fun _ i _ => 256 - (intOf i).toNat)
        case atStart => exact ⟨0, by omega, rfl, O0.out, B0.out⟩
        case round =>
          obtain ⟨k, hk, rfl, hown, hbel⟩ := hrel
          by_cases hk2 : k < 256
          · have HO1 := Lib.hid hown
            have hst := fun (v1 : Value) (w1 : World) (o : Obj) => lrel_step (v1 := v1) (w1 := w1) (o := o) hk2 hown hbel
            have HST := Lib.hid hst
            have hs' := hbel.size
            clear hown hbel hst
            go_wp2_with (at_builtin; refine wpList_append_own _ rfl (.tmp 27) (.tmp 30) 40 rfl w.heap.size 5 i0 (.int .u8 0) 1 1 Tryd.underlying40 hi hz0 hz1 hz2 rfl (by decide) _ _ _ rfl (HO1.out.alloc _) ⟨wr.heap.size, 0, none⟩ 1 1 [_] rfl rfl (cell_one_new _ _ _) (by simp [Value.oneCell']) (by unfold maxLen; omega) (by omega) (by simp; omega) ?_; intro v1 w1 hown1 hg1 _)
            exact ⟨HST.out v1 w1 _ hown1 hg1, by simp [intOf]; omega⟩
          · obtain rfl : k = 256 := by omega
            obtain ⟨g, cap, rfl⟩ := ownsRow_succ hown
            have hl : (rep256 s[0]).length = 256 := by unfold rep256; simp
            have htx : (convert 40 9 (.slice (some ⟨g, 0, none⟩) 256 cap)).run Tryd.prog wr = .ok (.string ⟨(rep256 s[0]).toArray⟩) wr := by
              have h := ow_text (P := Tryd.prog) (w := wr) (B := w.heap.size) (g := g) (cap := cap) (l := rep256 s[0]) Tryd.underlying40 Tryd.underlying5 Tryd.underlying9 (by rw [hl]; exact hown)
              rwa [hl] at h
            have HFI := Lib.hid (HF.out wr hbel)
            clear hown hbel hl HF
            generalize rep256 s[0] = t at *
            go_wp2_with fail
            go_ret2
            exact HFI.out
      · have HL := Lib.hid (HNO.out (by rw [e1]; exact if_neg hb) _ B0.out)
        have d2 : decide ((s.size : Int) < 2) = true := by simp; omega
        have hb' : (s[0].toNat : Int) < 97 ∨ (122 : Int) < (s[0].toNat : Int) := by omega
        clear hb e1 h1
        rcases hb' with hb | hb
        all_goals
          go_enter Tryd.func11, Tryd.ntmps11
          go_wp2_with fail
          go_ret2
          exact HL.out
    · have d1 : ((s.size : Int) == 1) = false := by simp; omega
      have d2 : decide ((s.size : Int) < 2) = false := by simp; omega
      have ht := tail_data p0
      have hr : 1 ≤ (s.extract 1 s.size).data.toList.length := by simp; omega
      have hg := fill_gen s[0] _ ht hr
      have HG := Lib.hid hg; clear hg ht hr
      have p1 : 1 ≤ s.size := p0
      by_cases hb : s[0] = 114
      · have b1 : ((s[0].toNat : Int) != 114) = false := by rw [hb]; rfl
        have hnum := rnumber_any (s.extract 1 s.size) (by unfold maxLen; simp [ByteArray.size_extract]; omega) (w.alloc (.cells #[] 5))
        cases hn : numB (s.extract 1 s.size).data.toList
        · have HL := Lib.hid (HNO.out (by rw [HG.out, hn]; simp) _ B0.out)
          unfold NEndR at hnum
          rw [hn] at hnum
          have HN := Lib.hid hnum; clear hnum hn hb
          go_enter Tryd.func11, Tryd.ntmps11
          go_wp2_with fail
          refine HN.out.mono ?_
          rintro e w' ⟨n, _, _, rfl, rfl⟩
          go_wp2_with fail
          go_ret2
          exact HL.out
        · have hf : fillL s.data.toList = some (genX (valL (s.extract 1 s.size).data.toList) 256) := by rw [HG.out, hn, hb]; simp
          unfold NEndR at hnum
          rw [hn] at hnum
          have HN := Lib.hid hnum; clear hnum hn hb
          have HF := Lib.hid hf; clear hf
          generalize hx : valL (s.extract 1 s.size).data.toList = x at *
          clear hx
          go_enter Tryd.func11, Tryd.ntmps11
          go_wp2_with fail
          refine HN.out.mono ?_
          rintro e w' ⟨n, hn1, hn2, rfl, rfl⟩
          obtain rfl : n = x := by simpa using hn1
          clear hn1
          have hv : n < 2147483648 := by omega
          go_wp2_with fail
          go_loopw [4, 6, 8] (fun v xx i wr => GRel n w xx v i wr) (fun _ _ i _ => 256 - (intOf i).toNat)
          case atStart => exact ⟨0, by omega, rfl, rfl, O0.out, B0.out⟩
          case round =>
            obtain ⟨k, hk, rfl, rfl, hown, hbel⟩ := hrel
            have hlt := seqX_lt hv k
            by_cases hk2 : k < 256
            · have HO1 := Lib.hid hown; have HB1 := Lib.hid hbel
              have hst := fun (v1 : Value) (w1 : World) (o : Obj) => grel_step (v1 := v1) (w1 := w1) (o := o) hk2 hown hbel
              have HST := Lib.hid hst
              have hs' := hbel.size
              clear hown hbel hst
              unfold nextX at HST
              generalize seqX n k = y at *
              go_wp2_with (at_builtin; refine wpList_append_own _ rfl (.tmp 58) (.tmp 63) 40 rfl w.heap.size 5 i0 (.int .u8 0) 1 1 Tryd.underlying40 hi hz0 hz1 hz2 rfl (by decide) _ _ _ rfl (HO1.out.alloc _) ⟨wr.heap.size, 0, none⟩ 1 1 [_] rfl rfl (cell_one_new _ _ _) (by simp [Value.oneCell']) (by unfold maxLen; omega) (by omega) (by simp; omega) ?_; intro v1 w1 hown1 hg1 _)
              refine ⟨?_, by simp [intOf]; omega⟩
              have h := HST.out v1 w1 _ (by
                have e : ((((y * 1103515245 + 12345) % 2147483648) / 65536 % 256 : Nat) : Int) = (1103515245 * (y : Int) + 12345) % 2147483648 / 65536 % 256 := by rw [Int.mul_comm 1103515245 (y : Int)]; exact cast_byte y
                rw [e]; exact hown1) hg1
              have e2 : (((y * 1103515245 + 12345) % 2147483648 : Nat) : Int) = (1103515245 * (y : Int) + 12345) % 2147483648 := by rw [Int.mul_comm 1103515245 (y : Int)]; exact cast_next y
              rw [e2] at h
              exact h
            · obtain rfl : k = 256 := by omega
              obtain ⟨g, cap, rfl⟩ := ownsRow_succ hown
              have hl := genX_length n 256
              have htx : (convert 40 9 (.slice (some ⟨g, 0, none⟩) 256 cap)).run Tryd.prog wr = .ok (.string ⟨(genX n 256).toArray⟩) wr := by
                have h := ow_text (P := Tryd.prog) (w := wr) (B := w.heap.size) (g := g) (cap := cap) (l := genX n 256) Tryd.underlying40 Tryd.underlying5 Tryd.underlying9 (by rw [hl]; exact hown)
                rwa [hl] at h
              have hfin : FEnd s w (.returned (.tuple #[.string ⟨(genX n 256).toArray⟩, .bool true])) wr := by unfold FEnd; rw [HF.out]; exact ⟨rfl, hbel⟩
              have HFI := Lib.hid hfin
              clear hown hbel hl hfin hlt
              generalize genX n 256 = t at *
              go_wp2_with fail
              go_ret2
              exact HFI.out
      · have HL := Lib.hid (HNO.out (by rw [HG.out]; simp [hb]) _ B0.out)
        have b1 : ((s[0].toNat : Int) != 114) = true := by
          rw [bne_iff_ne]; intro e
          exact hb (UInt8.toNat_inj.1 (by simpa using (Int.ofNat.inj e)))
        clear hb
        go_enter Tryd.func11, Tryd.ntmps11
        go_wp2_with fail
        go_ret2
        exact HL.out
end Go.Proofs.YtolegljmaacabaaDoor
