/- The walk of the document's Parse: what a text asks, the same. -/
import Derived.Test.YtolegljmaacabaaDoorReqD
import Derived.Test.YtolegljmaacabaaDoorReqHP
import Derived.Deep.DeepCutAuto
namespace Go.Proofs.YtolegljmaacabaaDoor
open Go.RowKit

theorem rparse_end {W : World} {b : Nat} {o : OpD} {ok : Bool} {tmps : Array Value} {R : Ending → World → Prop} (hO : OpAt W b o) (h2 : tmps[2]? = some (.pointer (some ⟨b, 0, none⟩))) (h3 : tmps[3]? = some (.bool ok))
    (hR : R (.returned (.tuple #[o.agg, .bool ok])) W) : bodyPost Tryd.prog Tryd.f9 R .ret { tmps := tmps, defers := [] } W := by
  have c0 := hO.cell 0 _ rfl; have c1 := hO.cell 1 _ rfl; have c2 := hO.cell 2 _ rfl; have c3 := hO.cell 3 _ rfl; have c4 := hO.cell 4 _ rfl; have c5 := hO.cell 5 _ rfl
  refine bodyPost_ret (v := .tuple #[o.agg, .bool ok]) ?_ rfl hR
  simp [results, Tryd.results9, go_sem, h2, h3, c0, c1, c2, c3, c4, c5, OpD.agg]

theorem rparse_endD {W : World} {b : Nat} {o : OpD} {ok : Bool} {tmps : Array Value} {R : Ending → World → Prop} (hO : OpAt W b o) (h2 : tmps[2]? = some (.pointer (some ⟨b, 0, none⟩))) (h3 : tmps[3]? = some (.bool ok))
    (hR : R (.returned (.tuple #[o.agg, .bool ok])) W.drew) : bodyPost Tryd.prog Tryd.f9 R .ret { tmps := tmps, defers := [] } W.drew :=
  rparse_end (W := W.drew) (show OpAt W.drew b o from hO) h2 h3 hR
theorem two_first (w : World) (x y : Obj) : ((w.alloc x).alloc y).heap[w.heap.size]? = some x := (Below.heap_alloc (w.alloc x) y w.heap.size (by simp)).trans (World.alloc_heap_new w x)
theorem two_next (w : World) (x y : Obj) : ((w.alloc x).alloc y).heap[w.heap.size + 1]? = some y := by
  have h := World.alloc_heap_new (w.alloc x) y
  have e : (w.alloc x).heap.size = w.heap.size + 1 := by simp
  rw [e] at h; exact h
def nameB (k : Nat) : ByteArray := ⟨(nameL k).toArray⟩
def namesV : Array Value := ((List.range 10).map fun k => Value.string (nameB k)).toArray
def manyV : Array Value := ((List.range 10).map fun k => Value.int .i64 (manyL k : Nat)).toArray
def Named (W : World) (b : Nat) : Prop := W.heap[b]? = some (.cells namesV 9 (0, 0)) ∧ W.heap[b + 1]? = some (.cells manyV 3 (0, 0))
theorem Named.name {W : World} {b : Nat} (h : Named W b) (k : Nat) (hk : k < 10) : W.cell? ⟨b, k, none⟩ = some (.string (nameB k)) := by
  simp [World.cell?, h.1, namesV, hk]
theorem Named.many {W : World} {b : Nat} (h : Named W b) (k : Nat) (hk : k < 10) : W.cell? ⟨b + 1, k, none⟩ = some (.int .i64 (manyL k : Nat)) := by
  simp [World.cell?, h.2, manyV, hk]
theorem nameB_eq {k : Nat} {c : ByteArray} : ((nameB k).toList == c.toList) = decide (nameL k = c.data.toList) := by
  rw [ByteArray.toList_eq, ByteArray.toList_eq]
  show ((nameL k).toArray.toList == c.data.toList) = _
  rw [List.toList_toArray, Bool.eq_iff_iff]; simp
def DRel (c : List UInt8) (w1 : World) (v i : Value) (wr : World) : Prop :=
  ∃ k : Nat, k ≤ 10 ∧ v = .int .i64 (doAt c k) ∧ i = .int .i64 k ∧ Named wr w1.heap.size ∧ Below w1.heap.size w1 wr

def NumsAt (W : World) (b : Nat) (f : Nat → Nat) : Prop := W.heap[b]? = some (.cells #[.int .i64 (f 0 : Nat), .int .i64 (f 1 : Nat), .int .i64 (f 2 : Nat)] 3 (0, 0))
theorem NumsAt.cell {W : World} {b : Nat} {f : Nat → Nat} (h : NumsAt W b f) (k : Nat) (hk : k < 3) : W.cell? ⟨b, k, none⟩ = some (.int .i64 (f k : Nat)) := by
  match k, hk with
  | 0, _ | 1, _ | 2, _ => simp [World.cell?, show W.heap[b]? = _ from h]
theorem NumsAt.free {W : World} {b : Nat} {f : Nat → Nat} (h : NumsAt W b f) (k : Nat) (hk : k < 3) : W.frozen? ⟨b, k, none⟩ = false := by
  match k, hk with
  | 0, _ | 1, _ | 2, _ => simp [World.frozen?, show W.heap[b]? = _ from h]
theorem NumsAt.set {W : World} {b : Nat} {f : Nat → Nat} (h : NumsAt W b f) (k : Nat) (hk : k < 3) (n : Nat) : NumsAt (W.setCell ⟨b, k, none⟩ (.int .i64 n)) b (fun j => if j = k then n else f j) := by
  obtain ⟨hlt, hg⟩ := Array.getElem?_eq_some_iff.1 h
  unfold NumsAt
  show (W.heap.modify b _)[b]? = _
  rw [Array.getElem?_eq_getElem (by rw [Array.size_modify]; exact hlt), Array.getElem_modify_self, hg]
  match k, hk with
  | 0, _ | 1, _ | 2, _ => simp
def NmRel (w0 : World) (ar : List ByteArray) (d : Nat) (i : Value) (W : World) : Prop :=
  ∃ k : Nat, k ≤ manyL d ∧ i = .int .i64 k ∧ NumsAt W w0.heap.size (valsL ar d k) ∧ (∀ j a, j < k → ¬ (d = 4 ∧ j = 2) → ar[j]? = some a → numB a.data.toList = true) ∧ Below w0.heap.size w0 W

set_option maxRecDepth 100000 in
set_option maxHeartbeats 16000000 in
theorem rparse_any (s : ByteArray) (hs : s.size ≤ 2000000) (w : World) : Calls Tryd.prog 9 #[.string s] w (PEnd s w) := by
  have hno : parseL (wordsL s.data.toList) = none → ∀ w', Below w.heap.size w w' → PEnd s w (.returned (.tuple #[OpD.zero.agg, .bool false])) w' := by
    intro h w' hb; unfold PEnd; rw [h]; exact ⟨rfl, hb⟩
  have HNO := Lib.hid hno; clear hno
  go_enter Tryd.func9, Tryd.ntmps9
  go_wp2_with fail
  refine (rwords_any s hs _).mono ?_
  rintro e w1 ⟨v, ws, rfl, hws, hown, hb⟩
  have hb0 : Below w.heap.size w (((w.alloc (.cells OpD.zero.cells.toArray 27)).alloc (.cells OpD.zero.cells.toArray 27))) := ((Below.refl _ _).alloc (Nat.le_refl _) _).alloc (by simp) _
  have hres : OpAt w1 w.heap.size OpD.zero := (hb.block _ (by simp; omega)).trans (two_first w _ _)
  have hres2 : OpAt w1 (w.heap.size + 1) OpD.zero := (hb.block _ (by simp)).trans (two_next w _ _)
  have HRES := Lib.hid hres; have HRES2 := Lib.hid hres2
  have hb1 : Below w.heap.size w w1 := hb0.trans (hb.mono (by simp; omega))
  have HB1 := Lib.hid hb1
  have r0 := HRES.out.cell 0 _ rfl; have r1 := HRES.out.cell 1 _ rfl; have r2 := HRES.out.cell 2 _ rfl; have r3 := HRES.out.cell 3 _ rfl; have r4 := HRES.out.cell 4 _ rfl; have r5 := HRES.out.cell 5 _ rfl
  have f0 := HRES.out.free 0 _ rfl; have f1 := HRES.out.free 1 _ rfl; have f2 := HRES.out.free 2 _ rfl; have f3 := HRES.out.free 3 _ rfl; have f4 := HRES.out.free 4 _ rfl; have f5 := HRES.out.free 5 _ rfl
  have z0 := HRES2.out.cell 0 _ rfl; have z1 := HRES2.out.cell 1 _ rfl; have z2 := HRES2.out.cell 2 _ rfl; have z3 := HRES2.out.cell 3 _ rfl; have z4 := HRES2.out.cell 4 _ rfl; have z5 := HRES2.out.cell 5 _ rfl
  clear hres hres2 hb0
  cases ws with
  | nil =>
    have HL := Lib.hid (HNO.out (by rw [← hws]; rfl))
    rcases hown.2 with ⟨rfl, _⟩ | ⟨g, cap, cur, rfl, _⟩
    · clear hown hb hb1 hws
      go_wp2_with fail
      exact rparse_end (set6_at HRES.out OpD.zero) rfl rfl (HL.out _ (set6_below HB1.out (Nat.le_refl _) OpD.zero))
    · obtain ⟨hz, _, _, _⟩ := ow_cap hown
      have hz' : (0 : Nat) = 0 := hz
      clear hown hb hb1 hws hz hz'
      go_wp2_with fail
      exact rparse_end (set6_at HRES.out OpD.zero) rfl rfl (HL.out _ (set6_below HB1.out (Nat.le_refl _) OpD.zero))
  | cons c args =>
    obtain ⟨g, cap, rfl⟩ := ownsRow_succ (k := args.length) hown
    have hcell : w1.cell? ⟨g, 0, none⟩ = some (.string c) := ow_cell hown 0 (by simp [strsV])
    have hcells : ∀ k a, args[k]? = some a → w1.cell? ⟨g, k + 1, none⟩ = some (.string a) := by
      intro k a hk
      have hlt : k < args.length := (List.getElem?_eq_some_iff.1 hk).1
      have := ow_cell hown (k + 1) (by simp [strsV]; exact hlt)
      rw [this]
      simp only [strsV, List.map_cons, List.getElem_cons_succ, List.getElem_map]
      rw [(List.getElem?_eq_some_iff.1 hk).2]
    have hgl := (ow_cap hown).2.2.1
    have hgt := (ow_cap hown).2.2.2
    have hgl' : w.heap.size + 1 < g := by have := hgl; simp at this; omega
    have HC := Lib.hid hcells; have HWS := Lib.hid hws
    have hlen : args.length ≤ s.size := word_count hws
    have hcs : c.size ≤ maxLen := word_size hs hws c (by simp)
    have HCS := Lib.hid hcs; have HLEN := Lib.hid hlen
    have e0 : (((args.length + 1 : Nat) : Int) == 0) = false := by rw [beq_eq_false_iff_ne]; omega
    have e0' : ((args.length : Int) + 1 == 0) = false := by rw [beq_eq_false_iff_ne]; omega
    clear hown hb hb1 hws hcells hgl hcs hlen
    have hlen' : args.length ≤ s.size := HLEN.out
    go_wp2_with fail
    go_loopw [8, 9] (fun v i wr => DRel c.data.toList w1 v i wr) (fun _ i _ => 10 - (intOf i).toNat)
    case atStart => exact ⟨0, by omega, rfl, rfl, ⟨two_first w1 _ _, two_next w1 _ _⟩, ((Below.refl _ _).alloc (Nat.le_refl _) _).alloc (by simp) _⟩
    case round =>
      obtain ⟨k, hk, rfl, rfl, hnm, hbr⟩ := hrel
      have hcr : wr.cell? ⟨g, 0, none⟩ = some (.string c) := (hbr.cell (p := ⟨g, 0, none⟩) hgt).trans hcell
      have HN := Lib.hid hnm; have HBR := Lib.hid hbr
      clear hnm hbr
      by_cases hlt : k < 10
      · have hnk := HN.out.name k hlt
        have e1 : decide ((k : Int) < 10) = true := by simp; omega
        have e1' : (k : Int) < 10 := by omega
        have hst : doAt c.data.toList (k + 1) = if nameL k = c.data.toList then (k : Int) else doAt c.data.toList k := rfl
        by_cases hnc : nameL k = c.data.toList
        · have hne : ((nameB k).toList == c.toList) = true := by rw [nameB_eq]; simpa using hnc
          rw [if_pos hnc] at hst
          have HST := Lib.hid hst
          clear hst hnc
          go_wp2_with fail
          go_quiet (fail)
          go_wp2_with fail
          exact ⟨⟨k + 1, by omega, by rw [HST.out], by go_num, HN.out, below_drewN' HBR.out _⟩, by simp [intOf]; omega⟩
        · have hne : ((nameB k).toList == c.toList) = false := by rw [nameB_eq]; simpa using hnc
          rw [if_neg hnc] at hst
          have HST := Lib.hid hst
          clear hst hnc
          go_wp2_with fail
          go_quiet (fail)
          go_wp2_with fail
          exact ⟨⟨k + 1, by omega, by rw [HST.out], by go_num, HN.out, below_drewN' HBR.out _⟩, by simp [intOf]; omega⟩
      · obtain rfl : k = 10 := by omega
        have hbw : Below w.heap.size w wr := HB1.out.trans (HBR.out.mono HB1.out.size)
        have hre : OpAt wr w.heap.size OpD.zero := (HBR.out.block _ (by have := (Array.getElem?_eq_some_iff.1 HRES.out).1; exact this)).trans HRES.out
        have hre2 : OpAt wr (w.heap.size + 1) OpD.zero := (HBR.out.block _ (by have := (Array.getElem?_eq_some_iff.1 HRES2.out).1; exact this)).trans HRES2.out
        have hword : ∀ k a, args[k]? = some a → wr.cell? ⟨g, k + 1, none⟩ = some (.string a) := fun k a h => (HBR.out.cell (p := ⟨g, k + 1, none⟩) hgt).trans (HC.out k a h)
        have HRE := Lib.hid hre; have HRE2 := Lib.hid hre2; have HBW := Lib.hid hbw; have HW := Lib.hid hword
        clear r0 r1 r2 r3 r4 r5 f0 f1 f2 f3 f4 f5 z0 z1 z2 z3 z4 z5
        have r0 := HRE.out.cell 0 _ rfl; have r1 := HRE.out.cell 1 _ rfl; have r2 := HRE.out.cell 2 _ rfl; have r3 := HRE.out.cell 3 _ rfl; have r4 := HRE.out.cell 4 _ rfl; have r5 := HRE.out.cell 5 _ rfl
        have f0 := HRE.out.free 0 _ rfl; have f1 := HRE.out.free 1 _ rfl; have f2 := HRE.out.free 2 _ rfl; have f3 := HRE.out.free 3 _ rfl; have f4 := HRE.out.free 4 _ rfl; have f5 := HRE.out.free 5 _ rfl
        have z0 := HRE2.out.cell 0 _ rfl; have z1 := HRE2.out.cell 1 _ rfl; have z2 := HRE2.out.cell 2 _ rfl; have z3 := HRE2.out.cell 3 _ rfl; have z4 := HRE2.out.cell 4 _ rfl; have z5 := HRE2.out.cell 5 _ rfl
        clear hre hre2 hbw hword
        rcases do_found c.data.toList with ⟨hsh, hdo⟩ | ⟨d, hd, hcd, hsh, hdo⟩
        · have HL := Lib.hid (HNO.out (by rw [← HWS.out]; simp only [List.map_cons, parseL, hsh]))
          rw [hdo]
          clear hsh hdo
          go_wp2_with fail
          exact rparse_end (set6_at HRE.out OpD.zero) rfl rfl (HL.out _ (set6_below HBW.out (Nat.le_refl _) OpD.zero))
        · have hp : parseL (wordsL s.data.toList) = if manyL d = args.length then foldK (kindsL d) (args.map fun x => x.data.toList) { OpD.zero with act := d } else none := by
            rw [← HWS.out, List.map_cons, parse_at hsh, List.length_map]
          have HP := Lib.hid hp
          rw [hdo]
          clear hsh hdo hp hcd
          have hmd := HN.out.many d hd
          have e2 : decide ((d : Int) < 0) = false := by simp
          have hm3 := manyL_le d
          by_cases hmn : manyL d = args.length
          · have e1 : ((args.length : Int) + 1 != 1 + (manyL d : Int)) = false := by rw [hmn, bne_eq_false_iff_eq]; omega
            have hp2 : parseL (wordsL s.data.toList) = foldK (kindsL d) (args.map fun x => x.data.toList) { OpD.zero with act := d } := by rw [HP.out, if_pos hmn]
            have HP2 := Lib.hid hp2; have HMN := Lib.hid hmn
            clear hp2 hmn
            obtain ⟨wo, rfl⟩ : ∃ wo : World, wo = wr := ⟨_, rfl⟩
            go_wp2_with fail
            go_loopw [11] (fun i W => NmRel wo args d i W) (fun i _ => 3 - (intOf i).toNat)
            case atStart => exact ⟨0, Nat.zero_le _, rfl, by have h := World.alloc_heap_new wo (.cells #[.int .i64 0, .int .i64 0, .int .i64 0] 3); exact h, fun j a h => absurd h (by omega), (Below.refl _ _).alloc (Nat.le_refl _) _⟩
            case round =>
              obtain ⟨k, hk, rfl, hnum, hall, hbW⟩ := hrel
              have HNU := Lib.hid hnum; have HAL := Lib.hid hall; have HBW2 := Lib.hid hbW
              have hmdW : wr.cell? ⟨w1.heap.size + 1, d, none⟩ = some (.int .i64 (manyL d : Nat)) := (hbW.cell (p := ⟨w1.heap.size + 1, d, none⟩) (Array.getElem?_eq_some_iff.1 HN.out.2).1).trans hmd
              clear hnum hall hbW
              have hbwW : Below w.heap.size w wr := HBW.out.trans (HBW2.out.mono HBW.out.size)
              have hreW : OpAt wr w.heap.size OpD.zero := (HBW2.out.block _ (Array.getElem?_eq_some_iff.1 HRE.out).1).trans HRE.out
              have hre2W : OpAt wr (w.heap.size + 1) OpD.zero := (HBW2.out.block _ (Array.getElem?_eq_some_iff.1 HRE2.out).1).trans HRE2.out
              have HREW := Lib.hid hreW; have HRE2W := Lib.hid hre2W; have HBWW := Lib.hid hbwW
              clear r0 r1 r2 r3 r4 r5 f0 f1 f2 f3 f4 f5 z0 z1 z2 z3 z4 z5 hbwW hreW hre2W
              have r0 := HREW.out.cell 0 _ rfl; have r1 := HREW.out.cell 1 _ rfl; have r2 := HREW.out.cell 2 _ rfl; have r3 := HREW.out.cell 3 _ rfl; have r4 := HREW.out.cell 4 _ rfl; have r5 := HREW.out.cell 5 _ rfl
              have f0 := HREW.out.free 0 _ rfl; have f1 := HREW.out.free 1 _ rfl; have f2 := HREW.out.free 2 _ rfl; have f3 := HREW.out.free 3 _ rfl; have f4 := HREW.out.free 4 _ rfl; have f5 := HREW.out.free 5 _ rfl
              have z0 := HRE2W.out.cell 0 _ rfl; have z1 := HRE2W.out.cell 1 _ rfl; have z2 := HRE2W.out.cell 2 _ rfl; have z3 := HRE2W.out.cell 3 _ rfl; have z4 := HRE2W.out.cell 4 _ rfl; have z5 := HRE2W.out.cell 5 _ rfl
              by_cases hlt : k < manyL d
              · have hka : k < args.length := by have := HMN.out; omega
                have hk3 : k < 3 := by omega
                have e3 : decide ((k : Int) < (manyL d : Int)) = true := by simp; omega
                have e3' : (k : Int) < (manyL d : Int) := by omega
                obtain ⟨a, ha⟩ : ∃ a, args[k]? = some a := ⟨_, List.getElem?_eq_getElem hka⟩
                by_cases hf : d = 4 ∧ k = 2
                · have hv := vals_skip args hf
                  have HV := Lib.hid hv
                  obtain ⟨rfl, rfl⟩ := hf
                  clear hv
                  go_wp2_with fail
                  refine ⟨⟨3, by omega, rfl, by rw [HV.out]; exact HNU.out, fun j a' hj hnf ha' => HAL.out j a' (by omega) hnf ha', HBW2.out⟩, by simp [intOf]⟩
                · have hdk : ((((k : Int) == 2) = false) ∧ (((d : Int) == 4) = true)) ∨ ((d : Int) == 4) = false := by
                    by_cases h4 : d = 4
                    · left; exact ⟨by rw [beq_eq_false_iff_ne]; omega, by rw [h4]; rfl⟩
                    · right; rw [beq_eq_false_iff_ne]; omega
                  have hac : wr.cell? ⟨g, 1 + k, none⟩ = some (.string a) := by rw [Nat.add_comm]; exact (HBW2.out.cell (p := ⟨g, k + 1, none⟩) (Nat.lt_of_lt_of_le hgt HBR.out.size)).trans (HW.out k a ha)
                  have haz : a.size ≤ maxLen := word_size hs HWS.out a (List.mem_cons_of_mem _ (List.mem_of_getElem? ha))
                  have hnc := HNU.out.cell k hk3
                  have hnf := HNU.out.free k hk3
                  have hfail : numB a.data.toList = false → parseL (wordsL s.data.toList) = none := by
                    intro h; rw [HP2.out]
                    have hx : (kindsL d)[k]? = some (kindsL d)[k] := List.getElem?_eq_getElem hlt
                    exact foldK_none _ _ _ k _ a.data.toList hx (fun e => hf ((kinds_fill hx).1 e)) (by rw [List.getElem?_map, ha]; rfl) h
                  have hgo : numB a.data.toList = true → NmRel wo args d (.int .i64 ((k + 1 : Nat) : Int)) (wr.setCell ⟨wo.heap.size, k, none⟩ (.int .i64 (valL a.data.toList : Nat))) := by
                    intro h
                    have h1 := HNU.out.set k hk3 (numV a.data.toList)
                    rw [← vals_step args hf ha] at h1
                    unfold numV at h1
                    rw [if_pos h] at h1
                    refine ⟨k + 1, hlt, rfl, h1, fun j a' hj hnf ha' => ?_, HBW2.out.setCell (p := ⟨wo.heap.size, k, none⟩) (Nat.le_refl _) _⟩
                    by_cases e : j = k
                    · subst e
                      rw [ha] at ha'
                      obtain rfl := Option.some.inj ha'
                      exact h
                    · exact HAL.out j a' (by omega) hnf ha'
                  have HF := Lib.hid hfail; have HG := Lib.hid hgo; have HAZ := Lib.hid haz; have HNF := Lib.hid hf
                  clear hfail hgo haz hf
                  rcases hdk with ⟨e4, e5⟩ | e4
                  all_goals
                    go_wp2_with fail
                    refine (rnumber_any a HAZ.out _).mono ?_
                    rintro e w' ⟨n, hn, hn2, rfl, rfl⟩
                    cases hb : numB a.data.toList with
                    | false =>
                      have HL := Lib.hid (HNO.out (HF.out hb))
                      clear hn hb
                      go_wp2_with fail
                      exact rparse_end (set6_at HREW.out OpD.zero) rfl rfl (HL.out _ (set6_below HBWW.out (Nat.le_refl _) OpD.zero))
                    | true =>
                      have hn' := hn hb
                      have hgo := HG.out hb
                      rw [← hn'] at hgo
                      have HG2 := Lib.hid hgo
                      have HB := Lib.hid hb
                      clear hn hn' hb hgo
                      go_wp2_with fail
                      exact ⟨HG2.out, by simp [intOf]; omega⟩
              · obtain rfl : k = manyL d := by omega
                have e6 : decide ((manyL d : Int) < (manyL d : Int)) = false := by simp
                have n0 := HNU.out.cell 0 (by omega); have n1 := HNU.out.cell 1 (by omega); have n2 := HNU.out.cell 2 (by omega)
                have hfin : ∀ o, foldK (kindsL d) (args.map fun x => x.data.toList) { OpD.zero with act := d } = some o → ∀ W', Below w.heap.size w W' → PEnd s w (.returned (.tuple #[o.agg, .bool true])) W' := by
                  intro o h W' hb; unfold PEnd; rw [HP2.out, h]; exact ⟨rfl, hb⟩
                have HFIN := Lib.hid hfin
                clear hfin
                rcases (by omega : d = 0 ∨ d = 1 ∨ d = 2 ∨ d = 3 ∨ d = 4 ∨ d = 5 ∨ d = 6 ∨ d = 7 ∨ d = 8 ∨ d = 9) with h | h | h | h | h | h | h | h | h | h
                · have c0 : ((d : Int) == 0) = true := (by rw [beq_iff_eq]; omega)
                  have hdone : doneL d (valsL args d (manyL d)) ⟨#[]⟩ = { OpD.zero with act := d, vol := (valsL args d (manyL d) 0 : Nat), n := (valsL args d (manyL d) 1 : Nat) } := done0 _ _ h
                  have hd2 := HFIN.out _ (fold_ok args d hd (by omega) HMN.out HAL.out)
                  rw [hdone] at hd2
                  have HD := Lib.hid hd2; clear hd2 hdone h
                  go_wp2_with fail
                  go_region
                  go_wp2_with fail
                  exact rparse_endD (W := set6 wr w.heap.size { OpD.zero with act := d, vol := (valsL args d (manyL d) 0 : Nat), n := (valsL args d (manyL d) 1 : Nat) }) (o := { OpD.zero with act := d, vol := (valsL args d (manyL d) 0 : Nat), n := (valsL args d (manyL d) 1 : Nat) }) (set6_at HREW.out _) rfl rfl (HD.out _ (set6_below HBWW.out (Nat.le_refl _) _).drew)
                · have c0 : ((d : Int) == 0) = false := (by rw [beq_eq_false_iff_ne]; omega); have c2 : ((d : Int) == 2) = false := (by rw [beq_eq_false_iff_ne]; omega); have c1 : ((d : Int) == 1) = true := (by rw [beq_iff_eq]; omega)
                  have hdone : doneL d (valsL args d (manyL d)) ⟨#[]⟩ = { OpD.zero with act := d, vol := (valsL args d (manyL d) 0 : Nat) } := done1 _ _ h
                  have hd2 := HFIN.out _ (fold_ok args d hd (by omega) HMN.out HAL.out)
                  rw [hdone] at hd2
                  have HD := Lib.hid hd2; clear hd2 hdone h
                  go_wp2_with fail
                  exact rparse_end (W := set6 wr w.heap.size { OpD.zero with act := d, vol := (valsL args d (manyL d) 0 : Nat) }) (o := { OpD.zero with act := d, vol := (valsL args d (manyL d) 0 : Nat) }) (set6_at HREW.out _) rfl rfl (HD.out _ (set6_below HBWW.out (Nat.le_refl _) _))
                · have c0 : ((d : Int) == 0) = false := (by rw [beq_eq_false_iff_ne]; omega); have c2 : ((d : Int) == 2) = true := (by rw [beq_iff_eq]; omega)
                  have hdone : doneL d (valsL args d (manyL d)) ⟨#[]⟩ = { OpD.zero with act := d, vol := (valsL args d (manyL d) 0 : Nat), n := (valsL args d (manyL d) 1 : Nat) } := done2 _ _ h
                  have hd2 := HFIN.out _ (fold_ok args d hd (by omega) HMN.out HAL.out)
                  rw [hdone] at hd2
                  have HD := Lib.hid hd2; clear hd2 hdone h
                  go_wp2_with fail
                  go_region
                  go_wp2_with fail
                  exact rparse_endD (W := set6 wr w.heap.size { OpD.zero with act := d, vol := (valsL args d (manyL d) 0 : Nat), n := (valsL args d (manyL d) 1 : Nat) }) (o := { OpD.zero with act := d, vol := (valsL args d (manyL d) 0 : Nat), n := (valsL args d (manyL d) 1 : Nat) }) (set6_at HREW.out _) rfl rfl (HD.out _ (set6_below HBWW.out (Nat.le_refl _) _).drew)
                · have c0 : ((d : Int) == 0) = false := (by rw [beq_eq_false_iff_ne]; omega); have c2 : ((d : Int) == 2) = false := (by rw [beq_eq_false_iff_ne]; omega); have c1 : ((d : Int) == 1) = false := (by rw [beq_eq_false_iff_ne]; omega); have c3 : ((d : Int) == 3) = true := (by rw [beq_iff_eq]; omega)
                  have hdone : doneL d (valsL args d (manyL d)) ⟨#[]⟩ = { OpD.zero with act := d, vol := (valsL args d (manyL d) 0 : Nat), block := (valsL args d (manyL d) 1 : Nat) } := done3 _ _ h
                  have hd2 := HFIN.out _ (fold_ok args d hd (by omega) HMN.out HAL.out)
                  rw [hdone] at hd2
                  have HD := Lib.hid hd2; clear hd2 hdone h
                  go_wp2_with fail
                  go_region
                  go_wp2_with fail
                  exact rparse_endD (W := set6 wr w.heap.size { OpD.zero with act := d, vol := (valsL args d (manyL d) 0 : Nat), block := (valsL args d (manyL d) 1 : Nat) }) (o := { OpD.zero with act := d, vol := (valsL args d (manyL d) 0 : Nat), block := (valsL args d (manyL d) 1 : Nat) }) (set6_at HREW.out _) rfl rfl (HD.out _ (set6_below HBWW.out (Nat.le_refl _) _).drew)
                · have c0 : ((d : Int) == 0) = false := (by rw [beq_eq_false_iff_ne]; omega); have c2 : ((d : Int) == 2) = false := (by rw [beq_eq_false_iff_ne]; omega); have c1 : ((d : Int) == 1) = false := (by rw [beq_eq_false_iff_ne]; omega); have c3 : ((d : Int) == 3) = false := (by rw [beq_eq_false_iff_ne]; omega); have c4 : ((d : Int) == 4) = true := (by rw [beq_iff_eq]; omega)
                  have hm4 : args.length = 3 := by have := HMN.out; subst h; exact this.symm
                  obtain ⟨a, ha⟩ : ∃ a, args[2]? = some a := ⟨_, List.getElem?_eq_getElem (by omega)⟩
                  have hac : wr.cell? ⟨g, 3, none⟩ = some (.string a) := (HBW2.out.cell (p := ⟨g, 3, none⟩) (Nat.lt_of_lt_of_le hgt HBR.out.size)).trans (HW.out 2 a ha)
                  have haz : a.size ≤ maxLen := word_size hs HWS.out a (List.mem_cons_of_mem _ (List.mem_of_getElem? ha))
                  have hfold : foldK (kindsL d) (args.map fun x => x.data.toList) { OpD.zero with act := d } = if (fillL a.data.toList).isSome then some { OpD.zero with act := d, vol := (valsL args d (manyL d) 0 : Nat), block := (valsL args d (manyL d) 1 : Nat), text := ⟨((fillL a.data.toList).getD []).toArray⟩ } else none := by
                    have hm' := HMN.out; have hall' := HAL.out
                    subst h; exact fold_fill args hm' hall' a ha
                  have HFO := Lib.hid hfold; have HAZ := Lib.hid haz; have HM4 := Lib.hid hm4
                  clear hfold h haz
                  go_wp2_with fail
                  refine (rfill_any a HAZ.out _).mono ?_
                  rintro e w' ⟨rfl, hbF⟩
                  have hbwF : Below w.heap.size w w' := HBWW.out.trans (hbF.mono HBWW.out.size)
                  have hreF : OpAt w' w.heap.size OpD.zero := (hbF.block _ (Array.getElem?_eq_some_iff.1 HREW.out).1).trans HREW.out
                  have hre2F : OpAt w' (w.heap.size + 1) OpD.zero := (hbF.block _ (Array.getElem?_eq_some_iff.1 HRE2W.out).1).trans HRE2W.out
                  have hnuF : NumsAt w' wo.heap.size (valsL args d (manyL d)) := (hbF.block _ (Array.getElem?_eq_some_iff.1 HNU.out).1).trans HNU.out
                  have HREF := Lib.hid hreF; have HRE2F := Lib.hid hre2F; have HBWF := Lib.hid hbwF; have HNF := Lib.hid hnuF
                  clear r0 r1 r2 r3 r4 r5 f0 f1 f2 f3 f4 f5 z0 z1 z2 z3 z4 z5 n0 n1 n2 hbF hbwF hreF hre2F hnuF
                  have r0 := HREF.out.cell 0 _ rfl; have r1 := HREF.out.cell 1 _ rfl; have r2 := HREF.out.cell 2 _ rfl; have r3 := HREF.out.cell 3 _ rfl; have r4 := HREF.out.cell 4 _ rfl; have r5 := HREF.out.cell 5 _ rfl
                  have f0 := HREF.out.free 0 _ rfl; have f1 := HREF.out.free 1 _ rfl; have f2 := HREF.out.free 2 _ rfl; have f3 := HREF.out.free 3 _ rfl; have f4 := HREF.out.free 4 _ rfl; have f5 := HREF.out.free 5 _ rfl
                  have z0 := HRE2F.out.cell 0 _ rfl; have z1 := HRE2F.out.cell 1 _ rfl; have z2 := HRE2F.out.cell 2 _ rfl; have z3 := HRE2F.out.cell 3 _ rfl; have z4 := HRE2F.out.cell 4 _ rfl; have z5 := HRE2F.out.cell 5 _ rfl
                  have n0 := HNF.out.cell 0 (by omega); have n1 := HNF.out.cell 1 (by omega)
                  cases hs2 : (fillL a.data.toList).isSome with
                  | false =>
                    have HL := Lib.hid (HNO.out (by rw [HP2.out, HFO.out, hs2]; rfl))
                    clear hs2
                    go_wp2_with fail
                    exact rparse_end (set6_at HREF.out OpD.zero) rfl rfl (HL.out _ (set6_below HBWF.out (Nat.le_refl _) OpD.zero))
                  | true =>
                    have hd2 := HFIN.out _ (by rw [HFO.out, hs2]; rfl)
                    have HD := Lib.hid hd2; clear hd2 hs2
                    go_wp2_with fail
                    go_region
                    go_wp2_with fail
                    exact rparse_endD (W := set6 w' w.heap.size { OpD.zero with act := d, vol := (valsL args d (manyL d) 0 : Nat), block := (valsL args d (manyL d) 1 : Nat), text := ⟨((fillL a.data.toList).getD []).toArray⟩ }) (o := { OpD.zero with act := d, vol := (valsL args d (manyL d) 0 : Nat), block := (valsL args d (manyL d) 1 : Nat), text := ⟨((fillL a.data.toList).getD []).toArray⟩ }) (set6_at HREF.out _) rfl rfl (HD.out _ (set6_below HBWF.out (Nat.le_refl _) _).drew)
                · have c0 : ((d : Int) == 0) = false := (by rw [beq_eq_false_iff_ne]; omega); have c2 : ((d : Int) == 2) = false := (by rw [beq_eq_false_iff_ne]; omega); have c1 : ((d : Int) == 1) = false := (by rw [beq_eq_false_iff_ne]; omega); have c3 : ((d : Int) == 3) = false := (by rw [beq_eq_false_iff_ne]; omega); have c4 : ((d : Int) == 4) = false := (by rw [beq_eq_false_iff_ne]; omega); have c5 : ((d : Int) == 5) = true := (by rw [beq_iff_eq]; omega)
                  have hdone : doneL d (valsL args d (manyL d)) ⟨#[]⟩ = { OpD.zero with act := d, vol := (valsL args d (manyL d) 0 : Nat), block := (valsL args d (manyL d) 1 : Nat), n := (valsL args d (manyL d) 2 : Nat) } := done5 _ _ h
                  have hd2 := HFIN.out _ (fold_ok args d hd (by omega) HMN.out HAL.out)
                  rw [hdone] at hd2
                  have HD := Lib.hid hd2; clear hd2 hdone h
                  go_wp2_with fail
                  go_region
                  go_wp2_with fail
                  exact rparse_endD (W := set6 wr w.heap.size { OpD.zero with act := d, vol := (valsL args d (manyL d) 0 : Nat), block := (valsL args d (manyL d) 1 : Nat), n := (valsL args d (manyL d) 2 : Nat) }) (o := { OpD.zero with act := d, vol := (valsL args d (manyL d) 0 : Nat), block := (valsL args d (manyL d) 1 : Nat), n := (valsL args d (manyL d) 2 : Nat) }) (set6_at HREW.out _) rfl rfl (HD.out _ (set6_below HBWW.out (Nat.le_refl _) _).drew)
                · have c0 : ((d : Int) == 0) = false := (by rw [beq_eq_false_iff_ne]; omega); have c2 : ((d : Int) == 2) = false := (by rw [beq_eq_false_iff_ne]; omega); have c1 : ((d : Int) == 1) = false := (by rw [beq_eq_false_iff_ne]; omega); have c3 : ((d : Int) == 3) = false := (by rw [beq_eq_false_iff_ne]; omega); have c4 : ((d : Int) == 4) = false := (by rw [beq_eq_false_iff_ne]; omega); have c5 : ((d : Int) == 5) = false := (by rw [beq_eq_false_iff_ne]; omega); have c6 : ((d : Int) == 6) = true := (by rw [beq_iff_eq]; omega)
                  have hdone : doneL d (valsL args d (manyL d)) ⟨#[]⟩ = { OpD.zero with act := d, vol := (valsL args d (manyL d) 0 : Nat), dest := (valsL args d (manyL d) 1 : Nat) } := done6 _ _ h
                  have hd2 := HFIN.out _ (fold_ok args d hd (by omega) HMN.out HAL.out)
                  rw [hdone] at hd2
                  have HD := Lib.hid hd2; clear hd2 hdone h
                  go_wp2_with fail
                  go_region
                  go_wp2_with fail
                  exact rparse_endD (W := set6 wr w.heap.size { OpD.zero with act := d, vol := (valsL args d (manyL d) 0 : Nat), dest := (valsL args d (manyL d) 1 : Nat) }) (o := { OpD.zero with act := d, vol := (valsL args d (manyL d) 0 : Nat), dest := (valsL args d (manyL d) 1 : Nat) }) (set6_at HREW.out _) rfl rfl (HD.out _ (set6_below HBWW.out (Nat.le_refl _) _).drew)
                · have c0 : ((d : Int) == 0) = false := (by rw [beq_eq_false_iff_ne]; omega); have c2 : ((d : Int) == 2) = false := (by rw [beq_eq_false_iff_ne]; omega); have c1 : ((d : Int) == 1) = false := (by rw [beq_eq_false_iff_ne]; omega); have c3 : ((d : Int) == 3) = false := (by rw [beq_eq_false_iff_ne]; omega); have c4 : ((d : Int) == 4) = false := (by rw [beq_eq_false_iff_ne]; omega); have c5 : ((d : Int) == 5) = false := (by rw [beq_eq_false_iff_ne]; omega); have c6 : ((d : Int) == 6) = false := (by rw [beq_eq_false_iff_ne]; omega); have c9 : ((d : Int) == 9) = false := (by rw [beq_eq_false_iff_ne]; omega)
                  have hdone : doneL d (valsL args d (manyL d)) ⟨#[]⟩ = { OpD.zero with act := d } := done7 _ _ h
                  have hd2 := HFIN.out _ (fold_ok args d hd (by omega) HMN.out HAL.out)
                  rw [hdone] at hd2
                  have HD := Lib.hid hd2; clear hd2 hdone h
                  go_wp2_with fail
                  exact rparse_end (W := set6 wr w.heap.size { OpD.zero with act := d }) (o := { OpD.zero with act := d }) (set6_at HREW.out _) rfl rfl (HD.out _ (set6_below HBWW.out (Nat.le_refl _) _))
                · have c0 : ((d : Int) == 0) = false := (by rw [beq_eq_false_iff_ne]; omega); have c2 : ((d : Int) == 2) = false := (by rw [beq_eq_false_iff_ne]; omega); have c1 : ((d : Int) == 1) = false := (by rw [beq_eq_false_iff_ne]; omega); have c3 : ((d : Int) == 3) = false := (by rw [beq_eq_false_iff_ne]; omega); have c4 : ((d : Int) == 4) = false := (by rw [beq_eq_false_iff_ne]; omega); have c5 : ((d : Int) == 5) = false := (by rw [beq_eq_false_iff_ne]; omega); have c6 : ((d : Int) == 6) = false := (by rw [beq_eq_false_iff_ne]; omega); have c9 : ((d : Int) == 9) = false := (by rw [beq_eq_false_iff_ne]; omega)
                  have hdone : doneL d (valsL args d (manyL d)) ⟨#[]⟩ = { OpD.zero with act := d } := done8 _ _ h
                  have hd2 := HFIN.out _ (fold_ok args d hd (by omega) HMN.out HAL.out)
                  rw [hdone] at hd2
                  have HD := Lib.hid hd2; clear hd2 hdone h
                  go_wp2_with fail
                  exact rparse_end (W := set6 wr w.heap.size { OpD.zero with act := d }) (o := { OpD.zero with act := d }) (set6_at HREW.out _) rfl rfl (HD.out _ (set6_below HBWW.out (Nat.le_refl _) _))
                · have c0 : ((d : Int) == 0) = false := (by rw [beq_eq_false_iff_ne]; omega); have c2 : ((d : Int) == 2) = false := (by rw [beq_eq_false_iff_ne]; omega); have c1 : ((d : Int) == 1) = false := (by rw [beq_eq_false_iff_ne]; omega); have c3 : ((d : Int) == 3) = false := (by rw [beq_eq_false_iff_ne]; omega); have c4 : ((d : Int) == 4) = false := (by rw [beq_eq_false_iff_ne]; omega); have c5 : ((d : Int) == 5) = false := (by rw [beq_eq_false_iff_ne]; omega); have c6 : ((d : Int) == 6) = false := (by rw [beq_eq_false_iff_ne]; omega); have c9 : ((d : Int) == 9) = true := (by rw [beq_iff_eq]; omega)
                  have hdone : doneL d (valsL args d (manyL d)) ⟨#[]⟩ = { OpD.zero with act := d, n := (valsL args d (manyL d) 0 : Nat) } := done9 _ _ h
                  have hd2 := HFIN.out _ (fold_ok args d hd (by omega) HMN.out HAL.out)
                  rw [hdone] at hd2
                  have HD := Lib.hid hd2; clear hd2 hdone h
                  go_wp2_with fail
                  exact rparse_end (W := set6 wr w.heap.size { OpD.zero with act := d, n := (valsL args d (manyL d) 0 : Nat) }) (o := { OpD.zero with act := d, n := (valsL args d (manyL d) 0 : Nat) }) (set6_at HREW.out _) rfl rfl (HD.out _ (set6_below HBWW.out (Nat.le_refl _) _))
          · have HL := Lib.hid (HNO.out (by rw [HP.out, if_neg hmn]))
            have e1 : ((args.length : Int) + 1 != 1 + (manyL d : Int)) = true := by rw [bne_iff_ne]; omega
            clear hmn
            go_wp2_with fail
            exact rparse_end (set6_at HRE.out OpD.zero) rfl rfl (HL.out _ (set6_below HBW.out (Nat.le_refl _) OpD.zero))
end Go.Proofs.YtolegljmaacabaaDoor
