/- The walk of request.Parse: what a text asks. -/
import Derived.Test.YtolegljmaacabaaDoorReqD
import Derived.Test.YtolegljmaacabaaDoorReqF
import Derived.Test.YtolegljmaacabaaDoorReqHP
import Derived.Deep.RegionHeld3
import Derived.Deep.RegionWith
import Derived.Deep.DeepCutAuto
namespace Go.Proofs.YtolegljmaacabaaDoor
open Go.RowKit

theorem parse_end {W : World} {b : Nat} {o : OpD} {ok : Bool} {tmps : Array Value} {R : Ending → World → Prop} (hO : OpAt W b o) (h2 : tmps[2]? = some (.pointer (some ⟨b, 0, none⟩))) (h3 : tmps[3]? = some (.bool ok))
    (hR : R (.returned (.tuple #[o.agg, .bool ok])) W) : bodyPost Tryd.prog Tryd.f8 R .ret { tmps := tmps, defers := [] } W := by
  have c0 := hO.cell 0 _ rfl; have c1 := hO.cell 1 _ rfl; have c2 := hO.cell 2 _ rfl; have c3 := hO.cell 3 _ rfl; have c4 := hO.cell 4 _ rfl; have c5 := hO.cell 5 _ rfl
  refine bodyPost_ret (v := .tuple #[o.agg, .bool ok]) ?_ rfl hR
  simp [results, Tryd.results8, go_sem, h2, h3, c0, c1, c2, c3, c4, c5, OpD.agg]
theorem tells_form {lo : Nat} {W : World} {sh : Option (Nat × List WKind)} {v : Value} {ok : Bool} (h : Tells lo W sh v ok) : ∃ (d : Int) (A : Option Addr) (m : Nat), v = .agg #[.int .i64 d, .slice A m m] := by
  unfold Tells at h
  cases sh with
  | none => exact ⟨_, _, _, h.2⟩
  | some p => obtain ⟨_, A, h, _⟩ := h; exact ⟨_, _, _, h⟩
def Boxed2 (W : World) (b : Nat) : Prop := W.heap[b]? = some (.cells #[.int .i64 0, .slice none 0 0] 44 (0, 0))
theorem Boxed2.c0 {W : World} {b : Nat} (h : Boxed2 W b) : W.cell? ⟨b, 0, none⟩ = some (.int .i64 0) := by simp [World.cell?, show W.heap[b]? = _ from h]
theorem Boxed2.c1 {W : World} {b : Nat} (h : Boxed2 W b) : W.cell? ⟨b, 1, none⟩ = some (.slice none 0 0) := by simp [World.cell?, show W.heap[b]? = _ from h]
theorem Boxed2.f0 {W : World} {b : Nat} (h : Boxed2 W b) : W.frozen? ⟨b, 0, none⟩ = false := by simp [World.frozen?, show W.heap[b]? = _ from h]
theorem Boxed2.f1 {W : World} {b : Nat} (h : Boxed2 W b) : W.frozen? ⟨b, 1, none⟩ = false := by simp [World.frozen?, show W.heap[b]? = _ from h]

/-- the shape that a word asks for, in a box; what its closures hold -/
def Formed (wo : World) (sh : Option (Nat × List WKind)) (s5 s6 : Value) (wx : World) : Prop :=
  ∃ (fb lo : Nat) (d : Int) (A : Option Addr) (m : Nat) (ok : Bool), s5 = .pointer (some ⟨fb, 0, none⟩) ∧ s6 = .bool ok ∧ wo.heap.size ≤ lo ∧ wo.heap.size ≤ fb ∧ fb < wx.heap.size ∧
    wx.cell? ⟨fb, 0, none⟩ = some (.int .i64 d) ∧ wx.cell? ⟨fb, 1, none⟩ = some (.slice A m m) ∧ Tells lo wx sh (.agg #[.int .i64 d, .slice A m m]) ok ∧
    (∀ (i : Nat) (f : Nat × Nat), [(0, 30), (3, 31), (6, 32), (9, 33)][i]? = some f → wx.cell? ⟨lo + f.1, 0, none⟩ = some (.func (.func f.2) #[] #[])) ∧
    lo + 10 ≤ wx.heap.size ∧ Below wo.heap.size wo wx

theorem Tells.keep {lo : Nat} {W W' : World} {sh : Option (Nat × List WKind)} {v : Value} {ok : Bool} (h : Tells lo W sh v ok) (hs : W.heap.size ≤ W'.heap.size) (hc : ∀ b i, lo ≤ b → b < W.heap.size → W'.cell? ⟨b, i, none⟩ = W.cell? ⟨b, i, none⟩) : Tells lo W' sh v ok := by
  unfold Tells at h ⊢
  cases sh with
  | none => exact h
  | some p =>
    obtain ⟨h1, A, h2, h3⟩ := h
    refine ⟨h1, A, h2, fun i x hx => ?_⟩
    obtain ⟨b, e1, e2, e3, e4⟩ := h3 i x hx
    exact ⟨b, e1, by omega, e3, (hc b i e3 e2).trans e4⟩
theorem formed_alloc {wo w0 w2 : World} {sh : Option (Nat × List WKind)} {d : Int} {A : Option Addr} {m : Nat} {ok : Bool} (hS : Sh w0 10 8 w2) (h0 : w0.heap.size = wo.heap.size) (hb0 : Below wo.heap.size wo w0)
    (hT : Tells w0.heap.size w2 sh (.agg #[.int .i64 d, .slice A m m]) ok) : Formed wo sh (.pointer (some ⟨w2.heap.size, 0, none⟩)) (.bool ok) (w2.alloc (.cells #[.int .i64 d, .slice A m m] 44)) := by
  have hsz := hS.size
  have keep : ∀ b i, b < w2.heap.size → (w2.alloc (.cells #[.int .i64 d, .slice A m m] 44)).cell? ⟨b, i, none⟩ = w2.cell? ⟨b, i, none⟩ := fun b i h => World.cell?_alloc_past _ _ _ h
  refine ⟨w2.heap.size, w0.heap.size, d, A, m, ok, rfl, rfl, by omega, by omega, by simp, ?_, ?_, hT.keep (by simp) (fun b i _ h => keep b i h), fun i f hf => ?_, by simp; omega, (hb0.trans (hS.below.mono (by omega))).alloc (by omega) _⟩
  · rw [World.cell?_alloc_at _ _ _ _ rfl]; rfl
  · rw [World.cell?_alloc_at _ _ _ _ rfl]; rfl
  · rw [keep]
    · exact hS.boxes i f hf
    · match i, hf with
      | 0, hf => cases hf; simp; omega
      | 1, hf => cases hf; simp; omega
      | 2, hf => cases hf; simp; omega
      | 3, hf => cases hf; simp; omega
theorem formed_set {wo w0 w2 : World} {sh : Option (Nat × List WKind)} {d : Int} {A : Option Addr} {m : Nat} {ok : Bool} (hS : Sh w0 10 8 w2) (h0 : w0 = (wo.alloc (.cells #[.int .i64 0, .slice none 0 0] 44)).drew) (hf : Boxed2 w2 wo.heap.size)
    (hT : Tells w0.heap.size w2 sh (.agg #[.int .i64 d, .slice A m m]) ok) : Formed wo sh (.pointer (some ⟨wo.heap.size, 0, none⟩)) (.bool ok) ((w2.setCell ⟨wo.heap.size, 0, none⟩ (.int .i64 d)).setCell ⟨wo.heap.size, 1, none⟩ (.slice A m m)) := by
  have hsz := hS.size
  have h1 : w0.heap.size = wo.heap.size + 1 := by rw [h0]; simp
  have hb0 : Below wo.heap.size wo w0 := by rw [h0]; exact ((Below.refl _ _).alloc (Nat.le_refl _) _).drew
  have hfa : ((w2.setCell ⟨wo.heap.size, 0, none⟩ (.int .i64 d)).setCell ⟨wo.heap.size, 1, none⟩ (.slice A m m)).heap[wo.heap.size]? = some (.cells #[.int .i64 d, .slice A m m] 44 (0, 0)) := by
    have hf' : w2.heap[wo.heap.size]? = some (.cells #[.int .i64 0, .slice none 0 0] 44 (0, 0)) := hf
    simp [World.setCell, Array.getElem?_modify, hf']
  have keep : ∀ b i, b ≠ wo.heap.size → ((w2.setCell ⟨wo.heap.size, 0, none⟩ (.int .i64 d)).setCell ⟨wo.heap.size, 1, none⟩ (.slice A m m)).cell? ⟨b, i, none⟩ = w2.cell? ⟨b, i, none⟩ := by
    intro b i hne
    rw [World.cell?_setCell_other _ _ _ _ (by intro e; injection e with e; exact hne e.symm), World.cell?_setCell_other _ _ _ _ (by intro e; injection e with e; exact hne e.symm)]
  refine ⟨wo.heap.size, w0.heap.size, d, A, m, ok, rfl, rfl, by omega, Nat.le_refl _, by simp; omega, by simp [World.cell?, hfa], by simp [World.cell?, hfa], hT.keep (by simp) (fun b i h _ => keep b i (by omega)), fun i f hf => ?_, by simp; omega,
    ((hb0.trans (hS.below.mono (by omega))).setCell (p := ⟨wo.heap.size, 0, none⟩) (Nat.le_refl _) _).setCell (p := ⟨wo.heap.size, 1, none⟩) (Nat.le_refl _) _⟩
  rw [keep _ _ (by omega)]
  exact hS.boxes i f hf

def PRel (wc : World) (ks : List WKind) (as0 : List (List UInt8)) (o0 : OpD) (m : Nat) (i : Value) (wr : World) : Prop :=
  ∃ (k : Nat) (o : OpD), k ≤ m ∧ i = .int .i64 k ∧ OpAt wr wc.heap.size o ∧ foldK (ks.drop k) (as0.drop k) o = foldK ks as0 o0 ∧ Below wc.heap.size wc wr
set_option maxRecDepth 100000 in
set_option maxHeartbeats 2000000 in
theorem parse_any (s : ByteArray) (hs : s.size ≤ 2000000) (w : World) : Calls Tryd.prog 8 #[.string s] w (PEnd s w) := by
  have hno : parseL (wordsL s.data.toList) = none → ∀ w', Below w.heap.size w w' → PEnd s w (.returned (.tuple #[OpD.zero.agg, .bool false])) w' := by
    intro h w' hb; unfold PEnd; rw [h]; exact ⟨rfl, hb⟩
  have HNO := Lib.hid hno; clear hno
  go_enter Tryd.func8, Tryd.ntmps8
  go_wp2_with fail
  refine (words_any s hs _).mono ?_
  rintro e w1 ⟨v, ws, rfl, hws, hown, hb⟩
  have hres : OpAt w1 w.heap.size OpD.zero := (hb.block _ (by simp)).trans (World.alloc_heap_new w _)
  have HRES := Lib.hid hres; clear hres
  cases ws with
  | nil =>
    have HL := Lib.hid (HNO.out (by rw [← hws]; rfl))
    have hb1 : Below w.heap.size w w1 := ((Below.refl _ _).alloc (Nat.le_refl _) _).trans (hb.mono (by simp))
    have HB1 := Lib.hid hb1
    rcases hown.2 with ⟨rfl, _⟩ | ⟨g, cap, cur, rfl, _⟩
    · clear hown hb hb1 hws
      have r0 := HRES.out.cell 0 _ rfl; have r1 := HRES.out.cell 1 _ rfl; have r2 := HRES.out.cell 2 _ rfl; have r3 := HRES.out.cell 3 _ rfl; have r4 := HRES.out.cell 4 _ rfl; have r5 := HRES.out.cell 5 _ rfl
      have f0 := HRES.out.free 0 _ rfl; have f1 := HRES.out.free 1 _ rfl; have f2 := HRES.out.free 2 _ rfl; have f3 := HRES.out.free 3 _ rfl; have f4 := HRES.out.free 4 _ rfl; have f5 := HRES.out.free 5 _ rfl
      go_wp2_with fail
      exact parse_end (set6_at HRES.out OpD.zero) rfl rfl (HL.out _ (set6_below HB1.out (Nat.le_refl _) OpD.zero))
    · obtain ⟨hz, _, _, _⟩ := ow_cap hown
      have hz' : (0 : Nat) = 0 := hz
      clear hown hb hb1 hws hz hz'
      have r0 := HRES.out.cell 0 _ rfl; have r1 := HRES.out.cell 1 _ rfl; have r2 := HRES.out.cell 2 _ rfl; have r3 := HRES.out.cell 3 _ rfl; have r4 := HRES.out.cell 4 _ rfl; have r5 := HRES.out.cell 5 _ rfl
      have f0 := HRES.out.free 0 _ rfl; have f1 := HRES.out.free 1 _ rfl; have f2 := HRES.out.free 2 _ rfl; have f3 := HRES.out.free 3 _ rfl; have f4 := HRES.out.free 4 _ rfl; have f5 := HRES.out.free 5 _ rfl
      go_wp2_with fail
      exact parse_end (set6_at HRES.out OpD.zero) rfl rfl (HL.out _ (set6_below HB1.out (Nat.le_refl _) OpD.zero))
  | cons c args =>
    obtain ⟨g, cap, rfl⟩ := ownsRow_succ (k := args.length) hown
    have hcell : w1.cell? ⟨g, 0, none⟩ = some (.string c) := ow_cell hown 0 (by simp [strsV])
    have hcells : ∀ k a, args[k]? = some a → w1.cell? ⟨g, k + 1, none⟩ = some (.string a) := by
      intro k a hk
      have hlt : k < args.length := (List.getElem?_eq_some_iff.1 hk).1
      have := ow_cell hown (k + 1) (by simp [strsV]; exact hlt)
      rw [this]
      simp only [strsV, List.map_cons, List.getElem_cons_succ, List.getElem_map]
      rw [(List.getElem?_eq_some_iff.1 hk).2]
    have hgl := (ow_cap hown).2.2.1
    have hgt := (ow_cap hown).2.2.2
    have hgl' : w.heap.size < g := by have := hgl; simp at this; omega
    have hb1 : Below w.heap.size w w1 := ((Below.refl _ _).alloc (Nat.le_refl _) _).trans (hb.mono (by simp))
    have HC := Lib.hid hcells; have HB1 := Lib.hid hb1; have HWS := Lib.hid hws
    have hlen : args.length ≤ s.size := word_count hws
    have hcs : c.size ≤ maxLen := word_size hs hws c (by simp)
    have HCS := Lib.hid hcs; have HLEN := Lib.hid hlen
    have e0 : (((args.length + 1 : Nat) : Int) == 0) = false := by rw [beq_eq_false_iff_ne]; omega
    have e0' : ((args.length : Int) + 1 == 0) = false := by rw [beq_eq_false_iff_ne]; omega
    clear hown hb hb1 hws hcells hgl hcs hlen
    have hlen' : args.length ≤ s.size := HLEN.out
    go_upto_region 4 with (fail)
    obtain ⟨wo, rfl⟩ : ∃ wo : World, wo = w1 := ⟨_, rfl⟩
    go_cut [5, 6] (fun s5 s6 wx => Formed wo (shapeOf c.data.toList) s5 s6 wx)
    case first =>
      go_region_held3 (fun w' => w'.cell? ⟨g, 0, none⟩ = some (.string c)) (first | go_keep | assumption | (rw [World.cell?_setCell_other _ _ _ _ (by intro e; injection e with e; omega), World.cell?_setCell_other _ _ _ _ (by intro e; injection e with e; omega)]; assumption))
        (first
          | (go_at_call 18; (with_reducible refine (shapes_any wo.drew).mono ?_); rintro e w2 ⟨rfl, hS⟩; have hc2 := (hS.below.cell (p := ⟨g, 0, none⟩) hgt).trans hcell; obtain ⟨v, ok, hrun0, hrunA0, htell⟩ := look_any hS c HCS.out; have hrun : (Instr.lookup 46 (.map (some (wo.heap.size + 13))) (.string c) true).run Tryd.prog w2 = .ok (.tuple #[v, .bool ok]) w2 := hrun0; have hrunA : ∀ o, (Instr.lookup 46 (.map (some (wo.heap.size + 13))) (.string c) true).run Tryd.prog (w2.alloc o) = .ok (.tuple #[v, .bool ok]) (w2.alloc o) := hrunA0; clear hrun0 hrunA0; obtain ⟨d, A, m, rfl⟩ := tells_form htell; have HS := Lib.hid hS; have HT := Lib.hid htell; clear hS htell)
          | (go_at_call 18; refine (shapes_any _).mono ?_; rintro e w2 ⟨rfl, hS⟩; have hc2 : w2.cell? ⟨g, 0, none⟩ = some (.string c) := (hS.below.cell (p := ⟨g, 0, none⟩) (by simp; omega)).trans ((World.cell?_alloc_past _ _ _ hgt).trans hcell); have hf2 := (hS.below.block wo.heap.size (by simp)); have hf3 := World.alloc_heap_new wo (.cells #[.int .i64 0, .slice none 0 0] 44); obtain ⟨v, ok, hrun0, hrunA0, htell⟩ := look_any hS c HCS.out; have hz : ((wo.alloc (.cells #[.int .i64 0, .slice none 0 0] 44)).drew).heap.size = wo.heap.size + 1 := (by simp [World.drew]); rw [hz] at hrun0; clear hrunA0 hz; obtain ⟨d, A, m, rfl⟩ := tells_form htell; have HS := Lib.hid hS; have HT := Lib.hid htell; clear hS htell; have fb : Boxed2 w2 wo.heap.size := hf2.trans hf3; have q0 := fb.c0; have q1 := fb.c1; have q2 := fb.f0; have q3 := fb.f1; clear hf2 hf3))
      all_goals (go_wp2_with fail; go_meet)
      · exact formed_alloc HS.out rfl (Below.refl wo.heap.size wo).drew HT.out
      · exact formed_alloc HS.out rfl (Below.refl wo.heap.size wo).drew HT.out
      · exact formed_set HS.out rfl fb HT.out
    case rest =>
      obtain ⟨fb, lo, d, A, m, ok, rfl, rfl, hlo, hfb, hfbx, hc0, hc1, htell, hbox, hlx, hbx⟩ := hcut
      have hwx : Below w.heap.size w wc := HB1.out.trans (hbx.mono HB1.out.size)
      have hres : OpAt wc w.heap.size OpD.zero := (hbx.block _ (by have := HRES.out; have := (Array.getElem?_eq_some_iff.1 this).1; exact this)).trans HRES.out
      have hword : ∀ k a, args[k]? = some a → wc.cell? ⟨g, k + 1, none⟩ = some (.string a) := fun k a h => (hbx.cell (p := ⟨g, k + 1, none⟩) hgt).trans (HC.out k a h)
      have HW := Lib.hid hword; have HBX := Lib.hid hbx; have HWX := Lib.hid hwx; have HR := Lib.hid hres; have HBO := Lib.hid hbox
      clear hword hbx hwx hres hbox
      have r0 := HR.out.cell 0 _ rfl; have r1 := HR.out.cell 1 _ rfl; have r2 := HR.out.cell 2 _ rfl; have r3 := HR.out.cell 3 _ rfl; have r4 := HR.out.cell 4 _ rfl; have r5 := HR.out.cell 5 _ rfl
      have f0 := HR.out.free 0 _ rfl; have f1 := HR.out.free 1 _ rfl; have f2 := HR.out.free 2 _ rfl; have f3 := HR.out.free 3 _ rfl; have f4 := HR.out.free 4 _ rfl; have f5 := HR.out.free 5 _ rfl
      cases hsh : shapeOf c.data.toList with
      | none =>
        rw [hsh] at htell
        obtain ⟨rfl, hv⟩ := htell
        have HL := Lib.hid (HNO.out (by rw [← HWS.out]; simp only [List.map_cons, parseL, hsh]))
        clear hv hsh
        go_wp2_with fail
        exact parse_end (set6_at HR.out OpD.zero) rfl rfl (HL.out _ (set6_below HWX.out (Nat.le_refl _) OpD.zero))
      | some p =>
        obtain ⟨d', ks⟩ := p
        rw [hsh] at htell
        obtain ⟨rfl, A', hv, hks⟩ := htell
        have hp : parseL (wordsL s.data.toList) = if ks.length = args.length then foldK ks (args.map fun x => x.data.toList) { OpD.zero with act := d' } else none := by
          rw [← HWS.out]; simp only [List.map_cons, parseL, hsh, List.length_map]
        have hdm : d = (d' : Int) ∧ A = A' ∧ m = ks.length := by
          simp only [Value.agg.injEq, Array.mk.injEq, List.cons.injEq, Value.int.injEq, Value.slice.injEq, true_and, and_true] at hv
          exact ⟨hv.1, hv.2.1, hv.2.2.1⟩
        obtain ⟨rfl, rfl, hm⟩ := hdm
        have HP := Lib.hid hp; have HK := Lib.hid hks; have HM := Lib.hid hm
        clear hv hsh hp hks hm
        by_cases hmn : m = args.length
        · have e1 : ((m : Int) != (args.length : Int)) = false := by rw [hmn]; simp
          have hp2 : parseL (wordsL s.data.toList) = foldK ks (args.map fun x => x.data.toList) { OpD.zero with act := d' } := by rw [HP.out, if_pos (by rw [← HM.out]; exact hmn)]
          have HP2 := Lib.hid hp2; have HMN := Lib.hid hmn
          clear hp2 hmn
          go_wp2_with fail
          go_loopw [42] (fun i wr => PRel wc ks (args.map fun x => x.data.toList) { OpD.zero with act := d' } m i wr) (fun i _ => m - (intOf i).toNat)
          case atStart => exact ⟨0, { OpD.zero with act := d' }, Nat.zero_le _, rfl, World.alloc_heap_new wc _, rfl, (Below.refl _ _).alloc (Nat.le_refl _) _⟩
          case round =>
            obtain ⟨k, o, hk, rfl, hO, hfold, hbr⟩ := hrel
            have hwr : Below w.heap.size w wr := HWX.out.trans (hbr.mono HWX.out.size)
            have hresr : OpAt wr w.heap.size OpD.zero := (hbr.block _ (Array.getElem?_eq_some_iff.1 HR.out).1).trans HR.out
            have HBR := Lib.hid hbr; have HWR := Lib.hid hwr; have HRR := Lib.hid hresr; have HO := Lib.hid hO; have HFO := Lib.hid hfold
            clear hbr hwr hresr hO hfold
            by_cases hlt : k < m
            · have hka : k < args.length := by have := HMN.out; omega
              have hkk : k < ks.length := by have := HM.out; omega
              obtain ⟨a, ha⟩ : ∃ a, a = args[k] := ⟨_, rfl⟩
              obtain ⟨x, hx⟩ : ∃ x, x = ks[k] := ⟨_, rfl⟩
              have hxs : ks[k]? = some x := by rw [hx]; exact List.getElem?_eq_getElem hkk
              have has : args[k]? = some a := by rw [ha]; exact List.getElem?_eq_getElem hka
              obtain ⟨b, rfl, hb1, hb2, hb3⟩ := HK.out k x hxs
              have hkc : wr.cell? ⟨b, k, none⟩ = some (kindV lo x) := (HBR.out.cell (p := ⟨b, k, none⟩) hb1).trans hb3
              have hgc : g < wc.heap.size := Nat.lt_of_lt_of_le hgt HBX.out.size
              have hwc : wr.cell? ⟨g, k + 1, none⟩ = some (.string a) := (HBR.out.cell (p := ⟨g, k + 1, none⟩) hgc).trans (HW.out k a has)
              have hbxr : ∀ (i : Nat) (f : Nat × Nat), [(0, 30), (3, 31), (6, 32), (9, 33)][i]? = some f → wr.cell? ⟨lo + f.1, 0, none⟩ = some (.func (.func f.2) #[] #[]) := fun i f hf => (HBR.out.cell (p := ⟨lo + f.1, 0, none⟩) (show lo + f.1 < wc.heap.size by
                match i, hf with
                | 0, hf => cases hf; omega
                | 1, hf => cases hf; omega
                | 2, hf => cases hf; omega
                | 3, hf => cases hf; omega)).trans (HBO.out i f hf)
              have haz : a.size ≤ maxLen := word_size hs HWS.out a (List.mem_cons_of_mem _ (List.mem_of_getElem? has))
              have hstep : foldK (ks.drop k) ((args.map fun x => x.data.toList).drop k) o = if (applyK x o a.data.toList).2 then foldK (ks.drop (k + 1)) ((args.map fun x => x.data.toList).drop (k + 1)) (applyK x o a.data.toList).1 else none := by
                rw [List.drop_eq_getElem_cons hkk, List.drop_eq_getElem_cons (show k < (args.map fun x => x.data.toList).length by simpa using hka), ← hx, List.getElem_map, ← ha]
                rw [foldK]
              have hgr : wc.heap.size < wr.heap.size := (Array.getElem?_eq_some_iff.1 HO.out).1
              have HXR := Lib.hid hbxr; have HST := Lib.hid hstep; have HAZ := Lib.hid haz
              have w1 : IntKind.i64.wrap ((k : Int) + 1) = (k : Int) + 1 := IntWalk.i64_in _ (by omega)
              have e3 : (k : Int) + 1 < (args.length : Int) + 1 := by omega
              have e4 : 0 ≤ (k : Int) + 1 := by omega
              have e5 : ((k : Int) + 1).toNat = k + 1 := by omega
              have e6 : decide ((k : Int) < (m : Int)) = true := by simp; omega
              have e7 : (k : Int) < (m : Int) := by omega
              clear hx ha hxs has hbxr hstep haz hb3 hka hkk
              have yes : (applyK x o a.data.toList).2 = true → ∀ W', OpAt W' wc.heap.size (applyK x o a.data.toList).1 → wr.grownBy W' (some wc.heap.size) → PRel wc ks (args.map fun x => x.data.toList) { OpD.zero with act := d' } m (.int .i64 ((k : Int) + 1)) W' := fun h W' h1 h2 =>
                ⟨k + 1, _, hlt, by go_num, h1, by rw [← HFO.out, HST.out, if_pos h], HBR.out.grown h2 HBR.out.size (fun r e => by cases e; exact Nat.le_refl _)⟩
              have no : (applyK x o a.data.toList).2 = false → ∀ W', wr.grownBy W' (some wc.heap.size) → OpAt W' w.heap.size OpD.zero ∧ ∀ W2, Below w.heap.size w W2 → PEnd s w (.returned (.tuple #[OpD.zero.agg, .bool false])) W2 := fun h W' h2 =>
                ⟨(h2.block _ (Array.getElem?_eq_some_iff.1 HRR.out).1 (by have := (Array.getElem?_eq_some_iff.1 HR.out).1; intro e; injection e with e; omega)).trans HRR.out, HNO.out (by rw [HP2.out, ← HFO.out, HST.out, h]; rfl)⟩
              have HY := Lib.hid yes; have HN2 := Lib.hid no
              clear yes no
              cases hok : (applyK x o a.data.toList).2
              · have HOK := Lib.hid hok; clear hok
                cases x
                case vol =>
                  have hb0 : wr.cell? ⟨lo, 0, none⟩ = some (.func (.func 30) #[] #[]) := HXR.out 0 _ rfl
                  have hkc' : wr.cell? ⟨b, k, none⟩ = some (Value.func (Fn.func 46) #[] #[Value.pointer (some ⟨lo, 0, none⟩)]) := hkc
                  have hcall : ∀ W, OpAt W wc.heap.size o → W.cell? ⟨lo, 0, none⟩ = some (.func (.func 30) #[] #[]) → Calls Tryd.prog 46 #[.pointer (some ⟨wc.heap.size, 0, none⟩), .string a, .pointer (some ⟨lo, 0, none⟩)] W fun e W' => e = .returned (.bool false) ∧ OpAt W' wc.heap.size (applyK .vol o a.data.toList).1 ∧ W.grownBy W' (some wc.heap.size) := by
                    intro W h1 h2
                    have h := word1_any wc.heap.size (lo) a HAZ.out W o h1 h2
                    unfold SetEnd at h
                    rw [HOK.out] at h
                    exact h
                  have HCALL := Lib.hid hcall
                  clear hkc hcall
                  go_wp2_with fail
                  go_region_held3 (fun w' => w'.cell? ⟨wr.heap.size, 0, none⟩ = some (Value.func (Fn.func 46) #[] #[Value.pointer (some ⟨lo, 0, none⟩)]) ∧ w'.cell? ⟨g, k + 1, none⟩ = some (.string a)) (first | go_keep | assumption)
                    (first
                      | (go_at_call 46; refine (HCALL.out _ ?_ ?_).mono ?_; exact HO.out.alloc _; exact (World.cell?_alloc_past _ _ _ (by omega)).trans hb0; rintro e w2 ⟨rfl, hO2, hg2⟩; have q1 : w2.cell? ⟨wr.heap.size, 0, none⟩ = some (Value.func (Fn.func 46) #[] #[Value.pointer (some ⟨lo, 0, none⟩)]) := (hg2.cell (a := ⟨wr.heap.size, 0, none⟩) (World.cell?_alloc_at _ _ _ _ rfl) (by simp; omega)); have q2 : w2.cell? ⟨g, k + 1, none⟩ = some (.string a) := hg2.cell (a := ⟨g, k + 1, none⟩) ((World.cell?_alloc_past _ _ _ (by omega)).trans hwc) (by simp; omega); have hgw := gtrans (World.grownBy_alloc wr _ (some wc.heap.size)) (gdrew hg2); have HG := Lib.hid hgw; have HO2 := Lib.hid hO2; have HN3 := Lib.hid (HN2.out HOK.out w2 hgw); have r0 := HN3.out.1.cell 0 _ rfl; have r1 := HN3.out.1.cell 1 _ rfl; have r2 := HN3.out.1.cell 2 _ rfl; have r3 := HN3.out.1.cell 3 _ rfl; have r4 := HN3.out.1.cell 4 _ rfl; have r5 := HN3.out.1.cell 5 _ rfl; have f0 := HN3.out.1.free 0 _ rfl; have f1 := HN3.out.1.free 1 _ rfl; have f2 := HN3.out.1.free 2 _ rfl; have f3 := HN3.out.1.free 3 _ rfl; have f4 := HN3.out.1.free 4 _ rfl; have f5 := HN3.out.1.free 5 _ rfl; clear hgw hO2 hg2))
                  all_goals
                    go_wp2_with fail
                    exact parse_end (set6_at HN3.out.1 OpD.zero) rfl rfl (HN3.out.2 _ (set6_below (HWR.out.grown HG.out HWR.out.size (fun r e => by injection e with e; have := HWX.out.size; omega)) (Nat.le_refl _) OpD.zero))
                case dest =>
                  have hb0 : wr.cell? ⟨lo + 3, 0, none⟩ = some (.func (.func 31) #[] #[]) := HXR.out 1 _ rfl
                  have hkc' : wr.cell? ⟨b, k, none⟩ = some (Value.func (Fn.func 46) #[] #[Value.pointer (some ⟨lo + 3, 0, none⟩)]) := hkc
                  have hcall : ∀ W, OpAt W wc.heap.size o → W.cell? ⟨lo + 3, 0, none⟩ = some (.func (.func 31) #[] #[]) → Calls Tryd.prog 46 #[.pointer (some ⟨wc.heap.size, 0, none⟩), .string a, .pointer (some ⟨lo + 3, 0, none⟩)] W fun e W' => e = .returned (.bool false) ∧ OpAt W' wc.heap.size (applyK .dest o a.data.toList).1 ∧ W.grownBy W' (some wc.heap.size) := by
                    intro W h1 h2
                    have h := word2_any wc.heap.size (lo + 3) a HAZ.out W o h1 h2
                    unfold SetEnd at h
                    rw [HOK.out] at h
                    exact h
                  have HCALL := Lib.hid hcall
                  clear hkc hcall
                  go_wp2_with fail
                  go_region_held3 (fun w' => w'.cell? ⟨wr.heap.size, 0, none⟩ = some (Value.func (Fn.func 46) #[] #[Value.pointer (some ⟨lo + 3, 0, none⟩)]) ∧ w'.cell? ⟨g, k + 1, none⟩ = some (.string a)) (first | go_keep | assumption)
                    (first
                      | (go_at_call 46; refine (HCALL.out _ ?_ ?_).mono ?_; exact HO.out.alloc _; exact (World.cell?_alloc_past _ _ _ (by omega)).trans hb0; rintro e w2 ⟨rfl, hO2, hg2⟩; have q1 : w2.cell? ⟨wr.heap.size, 0, none⟩ = some (Value.func (Fn.func 46) #[] #[Value.pointer (some ⟨lo + 3, 0, none⟩)]) := (hg2.cell (a := ⟨wr.heap.size, 0, none⟩) (World.cell?_alloc_at _ _ _ _ rfl) (by simp; omega)); have q2 : w2.cell? ⟨g, k + 1, none⟩ = some (.string a) := hg2.cell (a := ⟨g, k + 1, none⟩) ((World.cell?_alloc_past _ _ _ (by omega)).trans hwc) (by simp; omega); have hgw := gtrans (World.grownBy_alloc wr _ (some wc.heap.size)) (gdrew hg2); have HG := Lib.hid hgw; have HO2 := Lib.hid hO2; have HN3 := Lib.hid (HN2.out HOK.out w2 hgw); have r0 := HN3.out.1.cell 0 _ rfl; have r1 := HN3.out.1.cell 1 _ rfl; have r2 := HN3.out.1.cell 2 _ rfl; have r3 := HN3.out.1.cell 3 _ rfl; have r4 := HN3.out.1.cell 4 _ rfl; have r5 := HN3.out.1.cell 5 _ rfl; have f0 := HN3.out.1.free 0 _ rfl; have f1 := HN3.out.1.free 1 _ rfl; have f2 := HN3.out.1.free 2 _ rfl; have f3 := HN3.out.1.free 3 _ rfl; have f4 := HN3.out.1.free 4 _ rfl; have f5 := HN3.out.1.free 5 _ rfl; clear hgw hO2 hg2))
                  all_goals
                    go_wp2_with fail
                    exact parse_end (set6_at HN3.out.1 OpD.zero) rfl rfl (HN3.out.2 _ (set6_below (HWR.out.grown HG.out HWR.out.size (fun r e => by injection e with e; have := HWX.out.size; omega)) (Nat.le_refl _) OpD.zero))
                case block =>
                  have hb0 : wr.cell? ⟨lo + 6, 0, none⟩ = some (.func (.func 32) #[] #[]) := HXR.out 2 _ rfl
                  have hkc' : wr.cell? ⟨b, k, none⟩ = some (Value.func (Fn.func 46) #[] #[Value.pointer (some ⟨lo + 6, 0, none⟩)]) := hkc
                  have hcall : ∀ W, OpAt W wc.heap.size o → W.cell? ⟨lo + 6, 0, none⟩ = some (.func (.func 32) #[] #[]) → Calls Tryd.prog 46 #[.pointer (some ⟨wc.heap.size, 0, none⟩), .string a, .pointer (some ⟨lo + 6, 0, none⟩)] W fun e W' => e = .returned (.bool false) ∧ OpAt W' wc.heap.size (applyK .block o a.data.toList).1 ∧ W.grownBy W' (some wc.heap.size) := by
                    intro W h1 h2
                    have h := word3_any wc.heap.size (lo + 6) a HAZ.out W o h1 h2
                    unfold SetEnd at h
                    rw [HOK.out] at h
                    exact h
                  have HCALL := Lib.hid hcall
                  clear hkc hcall
                  go_wp2_with fail
                  go_region_held3 (fun w' => w'.cell? ⟨wr.heap.size, 0, none⟩ = some (Value.func (Fn.func 46) #[] #[Value.pointer (some ⟨lo + 6, 0, none⟩)]) ∧ w'.cell? ⟨g, k + 1, none⟩ = some (.string a)) (first | go_keep | assumption)
                    (first
                      | (go_at_call 46; refine (HCALL.out _ ?_ ?_).mono ?_; exact HO.out.alloc _; exact (World.cell?_alloc_past _ _ _ (by omega)).trans hb0; rintro e w2 ⟨rfl, hO2, hg2⟩; have q1 : w2.cell? ⟨wr.heap.size, 0, none⟩ = some (Value.func (Fn.func 46) #[] #[Value.pointer (some ⟨lo + 6, 0, none⟩)]) := (hg2.cell (a := ⟨wr.heap.size, 0, none⟩) (World.cell?_alloc_at _ _ _ _ rfl) (by simp; omega)); have q2 : w2.cell? ⟨g, k + 1, none⟩ = some (.string a) := hg2.cell (a := ⟨g, k + 1, none⟩) ((World.cell?_alloc_past _ _ _ (by omega)).trans hwc) (by simp; omega); have hgw := gtrans (World.grownBy_alloc wr _ (some wc.heap.size)) (gdrew hg2); have HG := Lib.hid hgw; have HO2 := Lib.hid hO2; have HN3 := Lib.hid (HN2.out HOK.out w2 hgw); have r0 := HN3.out.1.cell 0 _ rfl; have r1 := HN3.out.1.cell 1 _ rfl; have r2 := HN3.out.1.cell 2 _ rfl; have r3 := HN3.out.1.cell 3 _ rfl; have r4 := HN3.out.1.cell 4 _ rfl; have r5 := HN3.out.1.cell 5 _ rfl; have f0 := HN3.out.1.free 0 _ rfl; have f1 := HN3.out.1.free 1 _ rfl; have f2 := HN3.out.1.free 2 _ rfl; have f3 := HN3.out.1.free 3 _ rfl; have f4 := HN3.out.1.free 4 _ rfl; have f5 := HN3.out.1.free 5 _ rfl; clear hgw hO2 hg2))
                  all_goals
                    go_wp2_with fail
                    exact parse_end (set6_at HN3.out.1 OpD.zero) rfl rfl (HN3.out.2 _ (set6_below (HWR.out.grown HG.out HWR.out.size (fun r e => by injection e with e; have := HWX.out.size; omega)) (Nat.le_refl _) OpD.zero))
                case many =>
                  have hb0 : wr.cell? ⟨lo + 9, 0, none⟩ = some (.func (.func 33) #[] #[]) := HXR.out 3 _ rfl
                  have hkc' : wr.cell? ⟨b, k, none⟩ = some (Value.func (Fn.func 46) #[] #[Value.pointer (some ⟨lo + 9, 0, none⟩)]) := hkc
                  have hcall : ∀ W, OpAt W wc.heap.size o → W.cell? ⟨lo + 9, 0, none⟩ = some (.func (.func 33) #[] #[]) → Calls Tryd.prog 46 #[.pointer (some ⟨wc.heap.size, 0, none⟩), .string a, .pointer (some ⟨lo + 9, 0, none⟩)] W fun e W' => e = .returned (.bool false) ∧ OpAt W' wc.heap.size (applyK .many o a.data.toList).1 ∧ W.grownBy W' (some wc.heap.size) := by
                    intro W h1 h2
                    have h := word4_any wc.heap.size (lo + 9) a HAZ.out W o h1 h2
                    unfold SetEnd at h
                    rw [HOK.out] at h
                    exact h
                  have HCALL := Lib.hid hcall
                  clear hkc hcall
                  go_wp2_with fail
                  go_region_held3 (fun w' => w'.cell? ⟨wr.heap.size, 0, none⟩ = some (Value.func (Fn.func 46) #[] #[Value.pointer (some ⟨lo + 9, 0, none⟩)]) ∧ w'.cell? ⟨g, k + 1, none⟩ = some (.string a)) (first | go_keep | assumption)
                    (first
                      | (go_at_call 46; refine (HCALL.out _ ?_ ?_).mono ?_; exact HO.out.alloc _; exact (World.cell?_alloc_past _ _ _ (by omega)).trans hb0; rintro e w2 ⟨rfl, hO2, hg2⟩; have q1 : w2.cell? ⟨wr.heap.size, 0, none⟩ = some (Value.func (Fn.func 46) #[] #[Value.pointer (some ⟨lo + 9, 0, none⟩)]) := (hg2.cell (a := ⟨wr.heap.size, 0, none⟩) (World.cell?_alloc_at _ _ _ _ rfl) (by simp; omega)); have q2 : w2.cell? ⟨g, k + 1, none⟩ = some (.string a) := hg2.cell (a := ⟨g, k + 1, none⟩) ((World.cell?_alloc_past _ _ _ (by omega)).trans hwc) (by simp; omega); have hgw := gtrans (World.grownBy_alloc wr _ (some wc.heap.size)) (gdrew hg2); have HG := Lib.hid hgw; have HO2 := Lib.hid hO2; have HN3 := Lib.hid (HN2.out HOK.out w2 hgw); have r0 := HN3.out.1.cell 0 _ rfl; have r1 := HN3.out.1.cell 1 _ rfl; have r2 := HN3.out.1.cell 2 _ rfl; have r3 := HN3.out.1.cell 3 _ rfl; have r4 := HN3.out.1.cell 4 _ rfl; have r5 := HN3.out.1.cell 5 _ rfl; have f0 := HN3.out.1.free 0 _ rfl; have f1 := HN3.out.1.free 1 _ rfl; have f2 := HN3.out.1.free 2 _ rfl; have f3 := HN3.out.1.free 3 _ rfl; have f4 := HN3.out.1.free 4 _ rfl; have f5 := HN3.out.1.free 5 _ rfl; clear hgw hO2 hg2))
                  all_goals
                    go_wp2_with fail
                    exact parse_end (set6_at HN3.out.1 OpD.zero) rfl rfl (HN3.out.2 _ (set6_below (HWR.out.grown HG.out HWR.out.size (fun r e => by injection e with e; have := HWX.out.size; omega)) (Nat.le_refl _) OpD.zero))
                case fill =>
                  have hkc' : wr.cell? ⟨b, k, none⟩ = some (Value.func (Fn.func 34) #[] #[]) := hkc
                  have hcall : ∀ W, OpAt W wc.heap.size o → Calls Tryd.prog 34 #[.pointer (some ⟨wc.heap.size, 0, none⟩), .string a] W fun e W' => e = .returned (.bool false) ∧ OpAt W' wc.heap.size (applyK .fill o a.data.toList).1 ∧ W.grownBy W' (some wc.heap.size) := by
                    intro W h1
                    have h := word5_any wc.heap.size a HAZ.out W o h1
                    unfold SetEnd at h
                    rw [HOK.out] at h
                    exact h
                  have HCALL := Lib.hid hcall
                  clear hkc hcall
                  go_wp2_with fail
                  go_region_held3 (fun w' => w'.cell? ⟨wr.heap.size, 0, none⟩ = some (Value.func (Fn.func 34) #[] #[]) ∧ w'.cell? ⟨g, k + 1, none⟩ = some (.string a)) (first | go_keep | assumption)
                    (first
                      | (go_at_call 34; refine (HCALL.out _ ?_).mono ?_; exact HO.out.alloc _; rintro e w2 ⟨rfl, hO2, hg2⟩; have q1 : w2.cell? ⟨wr.heap.size, 0, none⟩ = some (Value.func (Fn.func 34) #[] #[]) := (hg2.cell (a := ⟨wr.heap.size, 0, none⟩) (World.cell?_alloc_at _ _ _ _ rfl) (by simp; omega)); have q2 : w2.cell? ⟨g, k + 1, none⟩ = some (.string a) := hg2.cell (a := ⟨g, k + 1, none⟩) ((World.cell?_alloc_past _ _ _ (by omega)).trans hwc) (by simp; omega); have hgw := gtrans (World.grownBy_alloc wr _ (some wc.heap.size)) (gdrew hg2); have HG := Lib.hid hgw; have HO2 := Lib.hid hO2; have HN3 := Lib.hid (HN2.out HOK.out w2 hgw); have r0 := HN3.out.1.cell 0 _ rfl; have r1 := HN3.out.1.cell 1 _ rfl; have r2 := HN3.out.1.cell 2 _ rfl; have r3 := HN3.out.1.cell 3 _ rfl; have r4 := HN3.out.1.cell 4 _ rfl; have r5 := HN3.out.1.cell 5 _ rfl; have f0 := HN3.out.1.free 0 _ rfl; have f1 := HN3.out.1.free 1 _ rfl; have f2 := HN3.out.1.free 2 _ rfl; have f3 := HN3.out.1.free 3 _ rfl; have f4 := HN3.out.1.free 4 _ rfl; have f5 := HN3.out.1.free 5 _ rfl; clear hgw hO2 hg2))
                  all_goals
                    go_wp2_with fail
                    exact parse_end (set6_at HN3.out.1 OpD.zero) rfl rfl (HN3.out.2 _ (set6_below (HWR.out.grown HG.out HWR.out.size (fun r e => by injection e with e; have := HWX.out.size; omega)) (Nat.le_refl _) OpD.zero))
              · have HOK := Lib.hid hok; clear hok
                cases x
                case vol =>
                  have hb0 : wr.cell? ⟨lo, 0, none⟩ = some (.func (.func 30) #[] #[]) := HXR.out 0 _ rfl
                  have hkc' : wr.cell? ⟨b, k, none⟩ = some (Value.func (Fn.func 46) #[] #[Value.pointer (some ⟨lo, 0, none⟩)]) := hkc
                  have hcall : ∀ W, OpAt W wc.heap.size o → W.cell? ⟨lo, 0, none⟩ = some (.func (.func 30) #[] #[]) → Calls Tryd.prog 46 #[.pointer (some ⟨wc.heap.size, 0, none⟩), .string a, .pointer (some ⟨lo, 0, none⟩)] W fun e W' => e = .returned (.bool true) ∧ OpAt W' wc.heap.size (applyK .vol o a.data.toList).1 ∧ W.grownBy W' (some wc.heap.size) := by
                    intro W h1 h2
                    have h := word1_any wc.heap.size (lo) a HAZ.out W o h1 h2
                    unfold SetEnd at h
                    rw [HOK.out] at h
                    exact h
                  have HCALL := Lib.hid hcall
                  clear hkc hcall
                  go_wp2_with fail
                  go_region_held3 (fun w' => w'.cell? ⟨wr.heap.size, 0, none⟩ = some (Value.func (Fn.func 46) #[] #[Value.pointer (some ⟨lo, 0, none⟩)]) ∧ w'.cell? ⟨g, k + 1, none⟩ = some (.string a)) (first | go_keep | assumption)
                    (first
                      | (go_at_call 46; refine (HCALL.out _ ?_ ?_).mono ?_; exact HO.out.alloc _; exact (World.cell?_alloc_past _ _ _ (by omega)).trans hb0; rintro e w2 ⟨rfl, hO2, hg2⟩; have q1 : w2.cell? ⟨wr.heap.size, 0, none⟩ = some (Value.func (Fn.func 46) #[] #[Value.pointer (some ⟨lo, 0, none⟩)]) := (hg2.cell (a := ⟨wr.heap.size, 0, none⟩) (World.cell?_alloc_at _ _ _ _ rfl) (by simp; omega)); have q2 : w2.cell? ⟨g, k + 1, none⟩ = some (.string a) := hg2.cell (a := ⟨g, k + 1, none⟩) ((World.cell?_alloc_past _ _ _ (by omega)).trans hwc) (by simp; omega); have hgw := gtrans (World.grownBy_alloc wr _ (some wc.heap.size)) (gdrew hg2); have HG := Lib.hid hgw; have HO2 := Lib.hid hO2; clear hgw hO2 hg2))
                  all_goals
                    go_wp2_with fail
                    exact ⟨HY.out HOK.out w2 HO2.out HG.out, by simp [intOf]; omega⟩
                case dest =>
                  have hb0 : wr.cell? ⟨lo + 3, 0, none⟩ = some (.func (.func 31) #[] #[]) := HXR.out 1 _ rfl
                  have hkc' : wr.cell? ⟨b, k, none⟩ = some (Value.func (Fn.func 46) #[] #[Value.pointer (some ⟨lo + 3, 0, none⟩)]) := hkc
                  have hcall : ∀ W, OpAt W wc.heap.size o → W.cell? ⟨lo + 3, 0, none⟩ = some (.func (.func 31) #[] #[]) → Calls Tryd.prog 46 #[.pointer (some ⟨wc.heap.size, 0, none⟩), .string a, .pointer (some ⟨lo + 3, 0, none⟩)] W fun e W' => e = .returned (.bool true) ∧ OpAt W' wc.heap.size (applyK .dest o a.data.toList).1 ∧ W.grownBy W' (some wc.heap.size) := by
                    intro W h1 h2
                    have h := word2_any wc.heap.size (lo + 3) a HAZ.out W o h1 h2
                    unfold SetEnd at h
                    rw [HOK.out] at h
                    exact h
                  have HCALL := Lib.hid hcall
                  clear hkc hcall
                  go_wp2_with fail
                  go_region_held3 (fun w' => w'.cell? ⟨wr.heap.size, 0, none⟩ = some (Value.func (Fn.func 46) #[] #[Value.pointer (some ⟨lo + 3, 0, none⟩)]) ∧ w'.cell? ⟨g, k + 1, none⟩ = some (.string a)) (first | go_keep | assumption)
                    (first
                      | (go_at_call 46; refine (HCALL.out _ ?_ ?_).mono ?_; exact HO.out.alloc _; exact (World.cell?_alloc_past _ _ _ (by omega)).trans hb0; rintro e w2 ⟨rfl, hO2, hg2⟩; have q1 : w2.cell? ⟨wr.heap.size, 0, none⟩ = some (Value.func (Fn.func 46) #[] #[Value.pointer (some ⟨lo + 3, 0, none⟩)]) := (hg2.cell (a := ⟨wr.heap.size, 0, none⟩) (World.cell?_alloc_at _ _ _ _ rfl) (by simp; omega)); have q2 : w2.cell? ⟨g, k + 1, none⟩ = some (.string a) := hg2.cell (a := ⟨g, k + 1, none⟩) ((World.cell?_alloc_past _ _ _ (by omega)).trans hwc) (by simp; omega); have hgw := gtrans (World.grownBy_alloc wr _ (some wc.heap.size)) (gdrew hg2); have HG := Lib.hid hgw; have HO2 := Lib.hid hO2; clear hgw hO2 hg2))
                  all_goals
                    go_wp2_with fail
                    exact ⟨HY.out HOK.out w2 HO2.out HG.out, by simp [intOf]; omega⟩
                case block =>
                  have hb0 : wr.cell? ⟨lo + 6, 0, none⟩ = some (.func (.func 32) #[] #[]) := HXR.out 2 _ rfl
                  have hkc' : wr.cell? ⟨b, k, none⟩ = some (Value.func (Fn.func 46) #[] #[Value.pointer (some ⟨lo + 6, 0, none⟩)]) := hkc
                  have hcall : ∀ W, OpAt W wc.heap.size o → W.cell? ⟨lo + 6, 0, none⟩ = some (.func (.func 32) #[] #[]) → Calls Tryd.prog 46 #[.pointer (some ⟨wc.heap.size, 0, none⟩), .string a, .pointer (some ⟨lo + 6, 0, none⟩)] W fun e W' => e = .returned (.bool true) ∧ OpAt W' wc.heap.size (applyK .block o a.data.toList).1 ∧ W.grownBy W' (some wc.heap.size) := by
                    intro W h1 h2
                    have h := word3_any wc.heap.size (lo + 6) a HAZ.out W o h1 h2
                    unfold SetEnd at h
                    rw [HOK.out] at h
                    exact h
                  have HCALL := Lib.hid hcall
                  clear hkc hcall
                  go_wp2_with fail
                  go_region_held3 (fun w' => w'.cell? ⟨wr.heap.size, 0, none⟩ = some (Value.func (Fn.func 46) #[] #[Value.pointer (some ⟨lo + 6, 0, none⟩)]) ∧ w'.cell? ⟨g, k + 1, none⟩ = some (.string a)) (first | go_keep | assumption)
                    (first
                      | (go_at_call 46; refine (HCALL.out _ ?_ ?_).mono ?_; exact HO.out.alloc _; exact (World.cell?_alloc_past _ _ _ (by omega)).trans hb0; rintro e w2 ⟨rfl, hO2, hg2⟩; have q1 : w2.cell? ⟨wr.heap.size, 0, none⟩ = some (Value.func (Fn.func 46) #[] #[Value.pointer (some ⟨lo + 6, 0, none⟩)]) := (hg2.cell (a := ⟨wr.heap.size, 0, none⟩) (World.cell?_alloc_at _ _ _ _ rfl) (by simp; omega)); have q2 : w2.cell? ⟨g, k + 1, none⟩ = some (.string a) := hg2.cell (a := ⟨g, k + 1, none⟩) ((World.cell?_alloc_past _ _ _ (by omega)).trans hwc) (by simp; omega); have hgw := gtrans (World.grownBy_alloc wr _ (some wc.heap.size)) (gdrew hg2); have HG := Lib.hid hgw; have HO2 := Lib.hid hO2; clear hgw hO2 hg2))
                  all_goals
                    go_wp2_with fail
                    exact ⟨HY.out HOK.out w2 HO2.out HG.out, by simp [intOf]; omega⟩
                case many =>
                  have hb0 : wr.cell? ⟨lo + 9, 0, none⟩ = some (.func (.func 33) #[] #[]) := HXR.out 3 _ rfl
                  have hkc' : wr.cell? ⟨b, k, none⟩ = some (Value.func (Fn.func 46) #[] #[Value.pointer (some ⟨lo + 9, 0, none⟩)]) := hkc
                  have hcall : ∀ W, OpAt W wc.heap.size o → W.cell? ⟨lo + 9, 0, none⟩ = some (.func (.func 33) #[] #[]) → Calls Tryd.prog 46 #[.pointer (some ⟨wc.heap.size, 0, none⟩), .string a, .pointer (some ⟨lo + 9, 0, none⟩)] W fun e W' => e = .returned (.bool true) ∧ OpAt W' wc.heap.size (applyK .many o a.data.toList).1 ∧ W.grownBy W' (some wc.heap.size) := by
                    intro W h1 h2
                    have h := word4_any wc.heap.size (lo + 9) a HAZ.out W o h1 h2
                    unfold SetEnd at h
                    rw [HOK.out] at h
                    exact h
                  have HCALL := Lib.hid hcall
                  clear hkc hcall
                  go_wp2_with fail
                  go_region_held3 (fun w' => w'.cell? ⟨wr.heap.size, 0, none⟩ = some (Value.func (Fn.func 46) #[] #[Value.pointer (some ⟨lo + 9, 0, none⟩)]) ∧ w'.cell? ⟨g, k + 1, none⟩ = some (.string a)) (first | go_keep | assumption)
                    (first
                      | (go_at_call 46; refine (HCALL.out _ ?_ ?_).mono ?_; exact HO.out.alloc _; exact (World.cell?_alloc_past _ _ _ (by omega)).trans hb0; rintro e w2 ⟨rfl, hO2, hg2⟩; have q1 : w2.cell? ⟨wr.heap.size, 0, none⟩ = some (Value.func (Fn.func 46) #[] #[Value.pointer (some ⟨lo + 9, 0, none⟩)]) := (hg2.cell (a := ⟨wr.heap.size, 0, none⟩) (World.cell?_alloc_at _ _ _ _ rfl) (by simp; omega)); have q2 : w2.cell? ⟨g, k + 1, none⟩ = some (.string a) := hg2.cell (a := ⟨g, k + 1, none⟩) ((World.cell?_alloc_past _ _ _ (by omega)).trans hwc) (by simp; omega); have hgw := gtrans (World.grownBy_alloc wr _ (some wc.heap.size)) (gdrew hg2); have HG := Lib.hid hgw; have HO2 := Lib.hid hO2; clear hgw hO2 hg2))
                  all_goals
                    go_wp2_with fail
                    exact ⟨HY.out HOK.out w2 HO2.out HG.out, by simp [intOf]; omega⟩
                case fill =>
                  have hkc' : wr.cell? ⟨b, k, none⟩ = some (Value.func (Fn.func 34) #[] #[]) := hkc
                  have hcall : ∀ W, OpAt W wc.heap.size o → Calls Tryd.prog 34 #[.pointer (some ⟨wc.heap.size, 0, none⟩), .string a] W fun e W' => e = .returned (.bool true) ∧ OpAt W' wc.heap.size (applyK .fill o a.data.toList).1 ∧ W.grownBy W' (some wc.heap.size) := by
                    intro W h1
                    have h := word5_any wc.heap.size a HAZ.out W o h1
                    unfold SetEnd at h
                    rw [HOK.out] at h
                    exact h
                  have HCALL := Lib.hid hcall
                  clear hkc hcall
                  go_wp2_with fail
                  go_region_held3 (fun w' => w'.cell? ⟨wr.heap.size, 0, none⟩ = some (Value.func (Fn.func 34) #[] #[]) ∧ w'.cell? ⟨g, k + 1, none⟩ = some (.string a)) (first | go_keep | assumption)
                    (first
                      | (go_at_call 34; refine (HCALL.out _ ?_).mono ?_; exact HO.out.alloc _; rintro e w2 ⟨rfl, hO2, hg2⟩; have q1 : w2.cell? ⟨wr.heap.size, 0, none⟩ = some (Value.func (Fn.func 34) #[] #[]) := (hg2.cell (a := ⟨wr.heap.size, 0, none⟩) (World.cell?_alloc_at _ _ _ _ rfl) (by simp; omega)); have q2 : w2.cell? ⟨g, k + 1, none⟩ = some (.string a) := hg2.cell (a := ⟨g, k + 1, none⟩) ((World.cell?_alloc_past _ _ _ (by omega)).trans hwc) (by simp; omega); have hgw := gtrans (World.grownBy_alloc wr _ (some wc.heap.size)) (gdrew hg2); have HG := Lib.hid hgw; have HO2 := Lib.hid hO2; clear hgw hO2 hg2))
                  all_goals
                    go_wp2_with fail
                    exact ⟨HY.out HOK.out w2 HO2.out HG.out, by simp [intOf]; omega⟩
            · obtain rfl : k = m := by omega
              have hfin : parseL (wordsL s.data.toList) = some o := by
                rw [HP2.out, ← HFO.out, List.drop_of_length_le (by rw [HM.out]; exact Nat.le_refl _)]; rfl
              have hend : ∀ W2, Below w.heap.size w W2 → PEnd s w (.returned (.tuple #[o.agg, .bool true])) W2 := by
                intro W2 hb; unfold PEnd; rw [hfin]; exact ⟨rfl, hb⟩
              have HE := Lib.hid hend
              have x0 := HO.out.cell 0 _ rfl; have x1 := HO.out.cell 1 _ rfl; have x2 := HO.out.cell 2 _ rfl; have x3 := HO.out.cell 3 _ rfl; have x4 := HO.out.cell 4 _ rfl; have x5 := HO.out.cell 5 _ rfl
              have r0 := HRR.out.cell 0 _ rfl; have r1 := HRR.out.cell 1 _ rfl; have r2 := HRR.out.cell 2 _ rfl; have r3 := HRR.out.cell 3 _ rfl; have r4 := HRR.out.cell 4 _ rfl; have r5 := HRR.out.cell 5 _ rfl; have f0 := HRR.out.free 0 _ rfl; have f1 := HRR.out.free 1 _ rfl; have f2 := HRR.out.free 2 _ rfl; have f3 := HRR.out.free 3 _ rfl; have f4 := HRR.out.free 4 _ rfl; have f5 := HRR.out.free 5 _ rfl
              have e6 : decide ((k : Int) < (k : Int)) = false := by simp
              clear hfin hend
              go_wp2_with fail
              exact parse_end (set6_at HRR.out o) rfl rfl (HE.out _ (set6_below HWR.out (Nat.le_refl _) o))
        · have HL := Lib.hid (HNO.out (by rw [HP.out, if_neg (by rw [← HM.out]; exact hmn)]))
          have e1 : ((m : Int) != (args.length : Int)) = true := by rw [bne_iff_ne]; omega
          have e2 : m ≠ args.length := hmn
          clear hmn
          go_wp2_with fail
          exact parse_end (set6_at HR.out OpD.zero) rfl rfl (HL.out _ (set6_below HWX.out (Nat.le_refl _) OpD.zero))
end Go.Proofs.YtolegljmaacabaaDoor
