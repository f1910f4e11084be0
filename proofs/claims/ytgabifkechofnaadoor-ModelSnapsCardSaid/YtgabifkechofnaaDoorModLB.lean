/- The walks of the law's read and run. -/
import Derived.Test.YtgabifkechofnaaDoorModLA
import Derived.Test.YtgabifkechofnaaDoorModXC
import Derived.Test.YtgabifkechofnaaDoorModRE
namespace Go.Proofs.YtgabifkechofnaaDoor
open Go.RowKit

def OpAt (b : Nat) (x : OpD) (w : World) : Prop := ∀ r u, x.cells[r]? = some u → w.cell? ⟨b, r, none⟩ = some u
set_option maxRecDepth 100000 in
set_option maxHeartbeats 2000000 in
theorem lread_any (m : List VolD) (x : OpD) (v : Value) (w : World) (hm : ModelAt w v m) (hl : m.length ≤ 1000) (hbl : ∀ d ∈ m, d.blocks.length ≤ 50000) (hp : Pow10 w) :
    Calls Tryd.prog 15 #[v, x.agg] w fun e w' => e = .returned (.tuple #[.string (doL m x).2.text, .int .i64 (doL m x).2.code]) ∧ Below w.heap.size w w' := by
  obtain ⟨ac, vo, de, bl, nn, tx⟩ := x
  have hbx := (Below.refl w.heap.size w).alloc (Nat.le_refl _) (.cells #[.int .i64 ac, .int .i64 vo, .int .i64 de, .int .i64 bl, .int .i64 nn, .string tx] 24)
  have HBX := Lib.hid hbx; have HM := Lib.hid (hm.stays hbx); have HL := Lib.hid hl; have HBL := Lib.hid hbl; have HP := Lib.hid (pow_stays hp hbx)
  obtain ⟨⟨co, te, nu⟩, ha⟩ : ∃ a, (doL m ⟨ac, vo, de, bl, nn, tx⟩).2 = a := ⟨_, rfl⟩
  have HA := Lib.hid ha
  obtain ⟨p, c, rfl, _, _, _⟩ := hm
  clear hbx hl hbl hp ha
  simp only [OpD.agg]
  go_enter Tryd.func15, Tryd.ntmps15
  go_wp2_with fail
  refine (do_any m ⟨ac, vo, de, bl, nn, tx⟩ _ _ HM.out HL.out HBL.out HP.out).mono ?_
  rintro e w1 ⟨v', rfl, _, hb⟩
  rw [HA.out]
  have HB := Lib.hid (btrans HBX.out hb); clear hb
  simp only [AnsM.agg]
  go_wp2_with fail
  go_quiet (fail)
  go_wp2_with fail
  go_ret2
  rw [HA.out]
  exact ⟨rfl, below_drewN' (HB.out.alloc HB.out.size _) _⟩

def runL (m : List VolD) (l : List OpD) : List VolD × AnsM := l.foldl (fun s x => doL s.1 x) (m, .zero)
theorem runL_snoc {m : List VolD} {l : List OpD} {k : Nat} {x : OpD} (h : l[k]? = some x) : runL m (l.take (k + 1)) = doL (runL m (l.take k)).1 x := by
  obtain ⟨hk, rfl⟩ := List.getElem?_eq_some_iff.1 h
  unfold runL
  rw [List.take_succ_eq_append_getElem hk, List.foldl_append]; rfl
/-- what is asked, as it lies behind an address -/
def OpsIn (w : World) (g : Nat) (l : List OpD) : Prop := ∀ i x, l[i]? = some x → ∀ r u, x.cells[r]? = some u → w.cell? ⟨g, i * 6 + r, none⟩ = some u
theorem OpsIn.stays {w w' : World} {g : Nat} {l : List OpD} (h : OpsIn w g l) (hb : Below w.heap.size w w') : OpsIn w' g l := fun i x hx r u hu => cell_stays hb (h i x hx r u hu)
/-- a model that stores into the two boxes do not turn -/
def MGood (w wr : World) (v : Value) (m : List VolD) : Prop := MFin (w.heap.size + 2) 41 56 wr v m ∨ ModelAt w v m
theorem MGood.reads {w wr : World} {v : Value} {m : List VolD} (h : MGood w wr v m) (hb : Below w.heap.size w wr) : ModelAt wr v m := by
  rcases h with h | h
  · exact h.reads
  · exact h.stays hb
theorem MGood.set {w wr : World} {v : Value} {m : List VolD} (h : MGood w wr v m) {a : Addr} (ha : a.block < w.heap.size + 2) (u : Value) : MGood w (wr.setCell a u) v m := by
  rcases h with h | h
  · exact .inl (h.setBelow ha u)
  · exact .inr h
theorem MGood.below {w wr w' : World} {v : Value} {m : List VolD} (h : MGood w wr v m) (hb : Below wr.heap.size wr w') : MGood w w' v m := by
  rcases h with h | h
  · exact .inl (h.below hb)
  · exact .inr h
def RunRel (m : List VolD) (l : List OpD) (w : World) (v i : Value) (wr : World) : Prop :=
  ∃ k : Nat, k ≤ l.length ∧ i = .int .i64 k ∧ MGood w wr v (runL m (l.take k)).1 ∧ FBox (w.heap.size + 1) (.int .i64 (runL m (l.take k)).2.code) (.string (runL m (l.take k)).2.text) (.int .i64 (runL m (l.take k)).2.n) wr ∧ FBox w.heap.size (.int .i64 0) (.string ⟨#[]⟩) (.int .i64 0) wr ∧ Below w.heap.size w wr
theorem FBox.set3 {b : Nat} {x y z x' y' z' : Value} {W : World} (h : FBox b x y z W) : FBox b x' y' z' (((W.setCell ⟨b, 0, none⟩ x').setCell ⟨b, 1, none⟩ y').setCell ⟨b, 2, none⟩ z') := by
  have h0 := h.c0; have h1 := h.c1; have h2 := h.c2; have f0 := h.f0; have f1 := h.f1; have f2 := h.f2
  have k0 := h.lt
  refine ⟨?_, ?_, ?_, by simpa using f0, by simpa using f1, by simpa using f2⟩
  · rw [World.cell?_setCell_other _ _ _ _ (by simp), World.cell?_setCell_other _ _ _ _ (by simp)]; exact World.cell?_setCell_same _ _ _ h0
  · rw [World.cell?_setCell_other _ _ _ _ (by simp)]; exact World.cell?_setCell_same _ _ _ ((World.cell?_setCell_other _ _ _ _ (by simp)).trans h1)
  · exact World.cell?_setCell_same _ _ _ ((World.cell?_setCell_other _ _ _ _ (by simp)).trans ((World.cell?_setCell_other _ _ _ _ (by simp)).trans h2))

set_option maxRecDepth 100000 in
set_option maxHeartbeats 4000000 in
theorem lrun_any (m : List VolD) (l : List OpD) (v : Value) (g : Nat) (w : World) (hm : ModelAt w v m) (hops : OpsIn w g l) (hll : l.length ≤ 1000)
    (hsm : ∀ k, k ≤ l.length → (runL m (l.take k)).1.length ≤ 1000 ∧ ∀ d ∈ (runL m (l.take k)).1, d.blocks.length ≤ 50000) (hp : Pow10 w) :
    Calls Tryd.prog 18 #[v, .slice (some ⟨g, 0, none⟩) l.length l.length] w fun e w' => ∃ v', e = .returned (.tuple #[v', (runL m l).2.agg]) ∧ ModelAt w' v' (runL m l).1 ∧ Below w.heap.size w w' := by
  have HM := Lib.hid hm; have HO := Lib.hid hops; have HS := Lib.hid hsm; have HP := Lib.hid hp
  have hlen : (l.length : Int) ≤ 1000 := by omega
  clear hm hops hsm hp hll
  go_enter Tryd.func18, Tryd.ntmps18
  go_wp2_with fail
  go_loopw [0, 7] (fun v i wr => RunRel m l w v i wr) (fun _ i _ => l.length - (intOf i).toNat)
  case atStart =>
    have b1 : Below w.heap.size w (w.alloc (.cells #[.int .i64 0, .string ⟨#[]⟩, .int .i64 0] 29)) := (Below.refl _ _).alloc (Nat.le_refl _) _
    have b2 := btrans b1 ((Below.refl _ _).alloc (Nat.le_refl _) (.cells #[.int .i64 0, .string ⟨#[]⟩, .int .i64 0] 29))
    exact ⟨0, Nat.zero_le _, rfl, .inr HM.out, FBox.new _ (by simp), (FBox.new _ rfl).below ((Below.refl _ _).alloc (Nat.le_refl _) _), b2⟩
  case round =>
    obtain ⟨k, hk, rfl, hmod, hbx, hres, hb⟩ := hrel
    have HMO := Lib.hid hmod; have HBX := Lib.hid hbx; have HRS := Lib.hid hres; have HB := Lib.hid hb
    obtain ⟨p, c, rfl, _, _, _⟩ := hmod.reads hb
    have x0 := hbx.c0; have x1 := hbx.c1; have x2 := hbx.c2; have f0 := hbx.f0; have f1 := hbx.f1; have f2 := hbx.f2
    have hlt1 := hbx.lt
    clear hbx hmod hb
    by_cases hlt : k < l.length
    case neg =>
      obtain rfl : k = l.length := by omega
      have r0 := hres.c0; have r1 := hres.c1; have r2 := hres.c2; have s0 := hres.f0; have s1 := hres.f1; have s2 := hres.f2
      clear hres
      go_wp2_with fail
      go_region
      go_wp2_with fail
      have hlr := HRS.out.lt
      refine bodyPost_ret (v := .tuple #[.slice p (runL m (l.take l.length)).1.length c, (runL m (l.take l.length)).2.agg]) (by simp [results, Tryd.results18, go_sem, r0, r1, r2, AnsM.agg]) rfl ⟨_, by rw [List.take_length], ?_, ?_⟩
      · have hg := (((HMO.out.set (a := ⟨w.heap.size, 0, none⟩) (by show w.heap.size < w.heap.size + 2; omega) (.int .i64 (runL m (l.take l.length)).2.code)).set (a := ⟨w.heap.size, 1, none⟩) (by show w.heap.size < w.heap.size + 2; omega) (.string (runL m (l.take l.length)).2.text)).set (a := ⟨w.heap.size, 2, none⟩) (by show w.heap.size < w.heap.size + 2; omega) (.int .i64 (runL m (l.take l.length)).2.n)).below ((Below.refl _ _).drew)
        have hr := hg.reads ((((HB.out.setCell (Nat.le_refl _) _).setCell (Nat.le_refl _) _).setCell (Nat.le_refl _) _).drew)
        simp only [List.take_length] at hr ⊢
        exact hr
      · exact (((HB.out.setCell (Nat.le_refl _) _).setCell (Nat.le_refl _) _).setCell (Nat.le_refl _) _).drew
    clear hres
    have hki : (k : Int) < (l.length : Int) := by omega
    obtain ⟨⟨ac, vo, de, bl, nn, tx⟩, hx⟩ : ∃ x, l[k]? = some x := ⟨_, List.getElem?_eq_getElem hlt⟩
    have hcc := HO.out.stays HB.out k _ hx
    have q0 : wr.cell? ⟨g, k * 6, none⟩ = some (.int .i64 ac) := hcc 0 _ rfl
    have q1 := hcc 1 _ rfl
    have q2 := hcc 2 _ rfl
    have q3 := hcc 3 _ rfl
    have q4 := hcc 4 _ rfl
    have q5 := hcc 5 _ rfl
    have HSN := Lib.hid (runL_snoc (m := m) hx)
    have HMR := Lib.hid (HMO.out.reads HB.out)
    have HSK := Lib.hid (HS.out k hk)
    clear hcc hx
    go_wp2_with fail
    refine (do_any _ ⟨ac, vo, de, bl, nn, tx⟩ _ _ HMR.out HSK.out.1 HSK.out.2 (pow_stays HP.out HB.out)).mono ?_
    rintro e w1 ⟨v', rfl, hfin, hb⟩
    rw [← HSN.out]
    rw [← HSN.out] at hfin
    obtain ⟨⟨co, te, nu⟩, ha⟩ : ∃ a, (runL m (l.take (k + 1))).2 = a := ⟨_, rfl⟩
    rw [ha]
    have HA := Lib.hid ha; have HFI := Lib.hid (MFin.mono (show w.heap.size + 2 ≤ wr.heap.size by omega) hfin); have HX1 := Lib.hid (HBX.out.below hb); have HR1 := Lib.hid (HRS.out.below hb)
    have HB1 := Lib.hid (HB.out.trans (hb.mono HB.out.size))
    clear ha hfin x0 x1 x2 f0 f1 f2 q0 q1 q2 q3 q4 q5
    have x0 := HX1.out.c0; have x1 := HX1.out.c1; have x2 := HX1.out.c2; have f0 := HX1.out.f0; have f1 := HX1.out.f1; have f2 := HX1.out.f2
    have hlt2 := HX1.out.lt
    have hne : w1.heap.size ≠ w.heap.size + 1 := by omega
    clear hb
    simp only [AnsM.agg]
    go_wp2_with fail
    go_roundw
    case rel =>
      refine ⟨k + 1, by omega, by go_num, ?_, ?_, ?_, ?_⟩
      · refine .inl ?_
        repeat (first | exact HFI.out | (refine MFin.setBelow ?_ (show w.heap.size + 1 < w.heap.size + 2 by omega) _) | refine MFin.below ?_ ((Below.refl _ _).alloc (Nat.le_refl _) _))
      · rw [HA.out]
        first | exact (HX1.out.below ((Below.refl _ _).alloc (Nat.le_refl _) _)).set3 | exact HX1.out.set3.below ((Below.refl _ _).alloc (Nat.le_refl _) _)
      · repeat (first | exact HR1.out | (refine FBox.far ?_ (show w.heap.size + 1 ≠ w.heap.size by omega) _) | refine FBox.below ?_ ((Below.refl _ _).alloc (Nat.le_refl _) _))
      · repeat (first | exact HB1.out | (refine Below.setCell ?_ (show w.heap.size ≤ w.heap.size + 1 by omega) _) | refine Below.alloc ?_ (by simpa using HB1.out.size) _)
    case measure => simp [intOf]; omega
end Go.Proofs.YtgabifkechofnaaDoor
