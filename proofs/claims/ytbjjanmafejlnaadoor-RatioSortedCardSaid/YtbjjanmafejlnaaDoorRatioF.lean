/- The walk of slices.stableCmpFunc for fewer than 20 elements: one insertion sort. -/
import Derived.Test.YtbjjanmafejlnaaDoorRatioE
namespace Go.Proofs.YtbjjanmafejlnaaDoor
open Go.RowKit Go.Sort Go.Lib

theorem stable_small {α : Type} [Inhabited α] (enc : α → Value) (hO : OneCell enc) (cf : α → α → Int) (g : Nat) (cb : Array Value) (blk cap : Nat) (d : Array α) (w : World)
    (eg : ∀ args w, (callFunc g args).run Tryd.prog w = .ok (.enter g args) w) (hcmp : CmpReads Tryd.prog g cb enc cf blk 0 d.size w) (hH : Holds enc w blk 0 d) (h20 : d.size < 20) :
    Calls Tryd.prog 47 #[.slice (some ⟨blk, 0, none⟩) d.size cap, .int .i64 d.size, .func (.func g) #[] cb] w fun e w' =>
      e = .returned (.tuple #[]) ∧ ∃ n, w' = (putRow enc w blk 0 (Sort.insertionSort (ltOf cf) d 0 d.size)).drewN n := by
  have hins : Calls Tryd.prog 60 #[.slice (some ⟨blk, 0, none⟩) d.size cap, .int .i64 0, .int .i64 d.size, .func (.func g) #[] cb] w fun e w' =>
      e = .returned (.tuple #[]) ∧ ∃ n, w' = (putRow enc w blk 0 (Sort.insertionSort (ltOf cf) d 0 d.size)).drewN n := Any.insertionSortCmpFunc_one Tryd.insL enc hO cf g cb blk 0 cap 0 d.size d w eg hcmp hH (by omega) (by omega) (by omega)
  have HI := Lib.hid hins
  clear hins hcmp hH eg hO
  have hb1 : (20 : Int) ≤ (d.size : Int) ↔ False := by simp; omega
  generalize Sort.insertionSort (ltOf cf) d 0 d.size = r at *
  generalize d.size = n at *
  go_enter Tryd.func47, Tryd.ntmps47
  go_wp2_with fail
  refine wp_loop_rounds 1 ?_
  rw [rounds_succ]
  go_wp2_with fail
  refine HI.out.mono ?_
  rintro e w' ⟨rfl, q, rfl⟩
  go_wp2_with fail
  refine wp_loop_rounds 1 ?_
  rw [rounds_succ]
  go_wp2_with fail
  go_end0
  exact ⟨rfl, q, rfl⟩

theorem sort_stable_any (f : Value) (n cap blk : Nat) (_hn : n ≤ 140737488355328) (w : World) {Q : World → Prop}
    (h : Calls Tryd.prog 47 #[.slice (some ⟨blk, 0, none⟩) n cap, .int .i64 n, f] w fun e w' => e = .returned (.tuple #[]) ∧ Q w') :
    Calls Tryd.prog 32 #[.slice (some ⟨blk, 0, none⟩) n cap, f] w fun e w' => e = .returned (.tuple #[]) ∧ Q w' := by
  have H := Lib.hid h; clear h
  go_enter Tryd.func32, Tryd.ntmps32
  go_wp2_with fail
  refine H.out.mono ?_
  rintro e w' ⟨rfl, hq⟩
  have HQ := Lib.hid hq; clear hq
  go_wp2_with fail
  go_end0
  exact ⟨rfl, HQ.out⟩

theorem int_info : (Tryd.prog.info? 3).map (fun i => (i.zero, i.size, i.bytes)) = some (some (.int .i64 0), 1, 8) := by kernel_rfl

theorem order1_enters : ∀ args w, (callFunc 33 args).run Tryd.prog w = .ok (.enter 33 args) w := enters_of Tryd.func33 (by kernel_rfl) rfl

def encFin (n : Nat) (i : Fin n) : Value := .int .i64 (i.val : Nat)
def cmpFin (n : Nat) (xs : Nat → Nat) (i j : Fin n) : Int := cmpF (xs i.val) (xs j.val)

/-- what SortStableFunc makes of the places 0, 1, .. n-1: 'r'. ('Sorts' is paid by 'stable_small' and the like.) -/
def Sorts (n : Nat) (xs : Nat → Nat) (hn : 0 < n) (r : Array (Fin n)) : Prop :=
  ∀ (bx blk cap : Nat) (w : World),
    (haveI : Inhabited (Fin n) := ⟨⟨0, hn⟩⟩; CmpReads Tryd.prog 33 #[.pointer (some ⟨bx, 0, none⟩)] (encFin n) (cmpFin n xs) blk 0 n w) → (haveI : Inhabited (Fin n) := ⟨⟨0, hn⟩⟩; Holds (encFin n) w blk 0 (Array.ofFn (n := n) id)) →
    Calls Tryd.prog 47 #[.slice (some ⟨blk, 0, none⟩) n cap, .int .i64 n, .func (.func 33) #[] #[.pointer (some ⟨bx, 0, none⟩)]] w fun e w' =>
      e = .returned (.tuple #[]) ∧ ∃ q, (haveI : Inhabited (Fin n) := ⟨⟨0, hn⟩⟩; w' = (putRow (encFin n) w blk 0 r).drewN q)

def OrderEnds (n : Nat) (r : Nat → Nat) (w : World) (e : Ending) (w' : World) : Prop :=
  ∃ g, e = .returned (.slice (some ⟨g, 0, none⟩) n n) ∧ w.heap.size ≤ g ∧ g < w'.heap.size ∧ (∀ k, k < n → w'.cell? ⟨g, k, none⟩ = some (.int .i64 (r k : Nat))) ∧ Below w.heap.size w w'

/-- the places that have been laid after k rounds -/
def Fill (w : World) (n : Nat) (sl : Value) (k : Nat) (wr : World) : Prop :=
  wr.rowIs (w.heap.size + 1) 3 n (fun j => .int .i64 ((if j < k then j else 0 : Nat))) ∧ wr.cell? ⟨w.heap.size, 0, none⟩ = some sl ∧ Below w.heap.size w wr

theorem fill_start (w : World) (n : Nat) (sl : Value) (t : TypeId) : Fill w n sl 0 ((w.alloc (.cells #[sl] t)).alloc (.cells (madeCells #[.int .i64 0] n) 3)) := by
  refine ⟨?_, ?_, ((Below.refl _ _).alloc (Nat.le_refl _) _).alloc (by simp) _⟩
  · have h := World.rowIs_made (w.alloc (.cells #[sl] t)) (.int .i64 0) n 3
    have e : (w.alloc (.cells #[sl] t)).heap.size = w.heap.size + 1 := by simp
    rw [e] at h
    exact h.congr (fun i _ => by simp)
  · rw [World.cell?_alloc_past _ _ _ (by simp), World.cell?_alloc_at _ _ _ _ rfl]; rfl

theorem fill_step (w : World) (n : Nat) (sl : Value) (k : Nat) (wr : World) (h : Fill w n sl k wr) (hk : k < n) : Fill w n sl (k + 1) (wr.setCell ⟨w.heap.size + 1, k, none⟩ (.int .i64 k)) := by
  obtain ⟨h1, h2, h3⟩ := h
  refine ⟨(h1.set k _).congr (fun i _ => ?_), ?_, h3.setCell (by simp) _⟩
  · by_cases e : i = k
    · subst e; simp
    · have : i < k + 1 ↔ i < k := by omega
      simp [e, this]
  · rw [World.cell?_setCell_other]
    · exact h2
    · simp

theorem sortWorld_cell {α : Type} [Inhabited α] (enc : α → Value) (w : World) (blk m : Nat) (dk : Array α) (os : Array Obj) (b o : Nat) (hb : b < w.heap.size) (hne : b ≠ blk) :
    (sortWorld enc w blk 0 m dk os).cell? ⟨b, o, none⟩ = w.cell? ⟨b, o, none⟩ := by
  have h1 := (bcell (below_grow (putRow enc (Sort.ahead w m) blk 0 dk) os)).1 b o (by simpa using hb)
  exact h1.trans (cell?_putRow_other enc (Sort.ahead w m) blk 0 dk ⟨b, o, none⟩ (.inl hne))
theorem below_putRow {α : Type} [Inhabited α] (enc : α → Value) (w : World) (blk off B : Nat) (d : Array α) (h : B ≤ blk) : Below B w (putRow enc w blk off d) := by
  refine ⟨rfl, rfl, rfl, by simp, fun k hk => ?_⟩
  simp only [putRow, mapBlock, Array.getElem?_modify]
  rw [if_neg (by omega)]

set_option maxHeartbeats 1000000 in
theorem order_any (n : Nat) (hn0 : 0 < n) (hn : n ≤ 300) (xs : Nat → Nat) (b off cap : Nat) (hxs : ∀ k, k < n → xs k < 2 ^ 64) (w : World) (hb : b < w.heap.size)
    (hc : ∀ k, k < n → w.cell? ⟨b, off + k, none⟩ = some (.float .f64 (xs k))) (r : Array (Fin n)) (hr : r.size = n) (hs : Sorts n xs hn0 r) :
    Calls Tryd.prog 22 #[.slice (some ⟨b, off, none⟩) n cap] w (OrderEnds n (fun k => (haveI : Inhabited (Fin n) := ⟨⟨0, hn0⟩⟩; r[k]!).val) w) := by
  have hmk := run_make_row' (P := Tryd.prog) 37 3 (.int .i64 0) 8 Tryd.underlying37 int_info rfl .i64 .i64 n (by omega) (by omega)
  have hmf : ∀ (fn : Fn) (first cap : Array Value) (w : World), (Instr.makeFunc fn first cap).run Tryd.prog w = .ok (.func fn first cap) w := fun _ _ _ _ => rfl
  have HC := Lib.hid hc; have HXS := Lib.hid hxs; have HS := Lib.hid hs; have HR := Lib.hid hr
  clear hc hxs hs hr
  go_enter Tryd.func22, Tryd.ntmps22
  go_wp2_with fail
  go_loopw [10] (fun i wr => ∃ k : Nat, k ≤ n ∧ i = .int .i64 k ∧ Fill w n (.slice (some ⟨b, off, none⟩) n cap) k wr) (fun i _ => n - (intOf i).toNat)
  case atStart => exact ⟨0, by omega, rfl, fill_start _ _ _ _⟩
  case round =>
    obtain ⟨k, hk, rfl, hf⟩ := hrel
    have HF := Lib.hid hf; clear hf
    by_cases hlt : k < n
    · have hcell := HF.out.1.cell hlt
      have hfr := HF.out.1.frozen k
      go_wp2_with fail
      go_roundw
      case rel => exact ⟨k + 1, by omega, by go_num, fill_step _ _ _ _ _ HF.out hlt⟩
      case measure => simp [intOf]; omega
    · obtain rfl : k = n := by omega
      letI : Inhabited (Fin k) := ⟨⟨0, hn0⟩⟩
      have hbb := HF.out.2.2
      have hsz : w.heap.size + 1 < wr.heap.size := HF.out.1.lt
      have hcmp : CmpReads Tryd.prog 33 #[.pointer (some ⟨w.heap.size, 0, none⟩)] (encFin k) (cmpFin k xs) (w.heap.size + 1) 0 k wr := by
        intro m os dk hdk x y
        refine cmp_any x.val y.val k xs b off cap w.heap.size x.isLt y.isLt (by omega) HXS.out _ ?_ ?_
        · rw [sortWorld_cell _ _ _ _ _ _ _ _ (by omega) (by omega)]; exact HF.out.2.1
        · intro j hj
          rw [sortWorld_cell _ _ _ _ _ _ _ _ (by omega) (by omega), (bcell hbb).1 _ _ hb]; exact HC.out j hj
      have hH : Holds (encFin k) wr (w.heap.size + 1) 0 (Array.ofFn (n := k) id) := by
        intro j hj
        have hj' : j < k := by simpa using hj
        refine ⟨?_, ?_⟩
        · have := HF.out.1.cell hj'
          rw [Nat.zero_add, this, getElem!_pos _ j hj]
          simp [encFin, hj']
        · exact HF.out.1.frozen _
      have hcall := sort_stable_any (.func (.func 33) #[] #[.pointer (some ⟨w.heap.size, 0, none⟩)]) k k (w.heap.size + 1) (by omega) wr
        (HS.out w.heap.size (w.heap.size + 1) k wr hcmp hH)
      have HCALL := Lib.hid hcall
      have hfin : ∀ q, OrderEnds k (fun j => (r[j]!).val) w (.returned (.slice (some ⟨w.heap.size + 1, 0, none⟩) k k)) ((putRow (encFin k) wr (w.heap.size + 1) 0 r).drewN q) := by
        intro q
        refine ⟨w.heap.size + 1, rfl, by omega, by simpa using hsz, ?_, below_drewN' (hbb.trans ((below_putRow _ _ _ _ _ _ (by omega)))) q⟩
        intro j hj
        have := cell?_putRow (encFin k) wr (w.heap.size + 1) 0 (Array.ofFn (n := k) id) r hH (by rw [HR.out]; simp) j (by rw [HR.out]; exact hj)
        rw [Nat.zero_add] at this
        exact this
      have HFIN := Lib.hid hfin
      clear hcall hfin hcmp hH hbb
      go_wp2_with fail
      refine HCALL.out.mono ?_
      rintro e w' ⟨rfl, q, rfl⟩
      go_wp2_with fail
      go_ret
      exact HFIN.out q
end Go.Proofs.YtbjjanmafejlnaaDoor
