/- The walk of the model's status. -/
import Derived.Test.YtgabifkechofnaaDoorModG
import Derived.Test.YtgabifkechofnaaDoorModC
import Derived.Test.YtgabifkechofnaaDoorItoa
import Derived.Deep.RegionHeld3
import Derived.Deep.AppendLies
namespace Go.Proofs.YtgabifkechofnaaDoor
open Go.RowKit

def wordB (d : VolD) : ByteArray := itoaB d.id ++ ⟨#[58]⟩ ++ itoaB d.size ++ ⟨#[58]⟩ ++ itoaB d.blocks.length
def statusB (m : List VolD) : ByteArray := ⟨(Lib.join ((m.map wordB).map fun x => x.data.toList) [32]).toArray⟩
def strsW (l : List ByteArray) : List Value := l.map Value.string
theorem infoStrM : (Tryd.prog.info? 9).map (fun i => (i.zero, i.size, i.bytes)) = some (some (.string ⟨#[]⟩), 1, 16) := by kernel_rfl
theorem own_belowW {W W' : World} {B : Nat} {e : TypeId} {size n : Nat} {v : Value} {xs : List Value} (h : W.ownsRow B e size v n xs) (hb : Below W.heap.size W W') : W'.ownsRow B e size v n xs :=
  h.kept (row := none) ⟨hb.os, hb.tape, hb.output, hb.size, fun k hk _ => hb.block k hk⟩ (Classical.or_iff_not_imp_left.2 fun h => h)

def StRel (m : List VolD) (w : World) (v i : Value) (wr : World) : Prop :=
  ∃ (k : Nat) (vv : Value), vv = v ∧ k ≤ m.length ∧ i = .int .i64 k ∧ wr.ownsRow w.heap.size 9 1 v k (strsW ((m.take k).map wordB)) ∧ Below w.heap.size w wr

def STat (w wr : World) (d : VolD) (bp : Option Addr) (bc : Nat) (w' : World) : Prop :=
  Pow10 w' ∧ Below w.heap.size w w' ∧ w'.cell? ⟨wr.heap.size, 0, none⟩ = some (.int .i64 d.id) ∧ w'.cell? ⟨wr.heap.size, 1, none⟩ = some (.int .i64 d.size) ∧ w'.cell? ⟨wr.heap.size, 2, none⟩ = some (.slice bp d.blocks.length bc)
theorem STat.next {w wr : World} {d : VolD} {bp : Option Addr} {bc : Nat} {W W' : World} (h : STat w wr d bp bc W) (hb : Below W.heap.size W W') : STat w wr d bp bc W' := by
  obtain ⟨h1, h2, h3, h4, h5⟩ := h
  exact ⟨pow_stays h1 hb, btrans h2 hb, cell_stays hb h3, cell_stays hb h4, cell_stays hb h5⟩
theorem STat.grown {w wr : World} {d : VolD} {bp : Option Addr} {bc : Nat} {W W' : World} {row : Option Nat} (hp : Pow10 w) (h : STat w wr d bp bc W) (hg : W.grownBy W' row) (hr : ∀ k, row = some k → w.heap.size ≤ k ∧ k < wr.heap.size) : STat w wr d bp bc W' := by
  obtain ⟨h1, h2, h3, h4, h5⟩ := h
  have hb := h2.grown hg h2.size (fun k e => (hr k e).1)
  have hne : some wr.heap.size ≠ row := fun e => by have := (hr _ e.symm).2; omega
  exact ⟨pow_stays hp hb, hb, hg.cell h3 hne, hg.cell h4 hne, hg.cell h5 hne⟩

theorem join_len (l : List (List UInt8)) (h : ∀ x ∈ l, x.length ≤ 100) : (Lib.join l [32]).length ≤ l.length * 101 := by
  have key : ∀ r : List (List UInt8), (∀ x ∈ r, x.length ≤ 100) → (Lib.joinTail [32] r).length ≤ r.length * 101 := by
    intro r
    induction r with
    | nil => intro _; simp [Lib.joinTail]
    | cons x r ih =>
      intro h
      have h1 := h x (by simp)
      have h2 := ih (fun y hy => h y (by simp [hy]))
      unfold Lib.joinTail at h2 ⊢
      rw [List.map_cons, List.flatten_cons, List.length_append, List.length_cons]
      simp only [List.length_append, List.length_cons, List.length_nil] at h2 ⊢
      omega
  cases l with
  | nil => simp [Lib.join_nil]
  | cons x r =>
    rw [Lib.join_cons, List.length_append, List.length_cons]
    have h1 := h x (by simp)
    have h2 := key r (fun y hy => h y (by simp [hy]))
    omega
theorem join_any (m : List VolD) (pp : Option Addr) (cc B : Nat) (w0 w : World) (p : Option Addr) (hown : w.ownsRow B 9 1 (.slice pp m.length cc) m.length (strsW (m.map wordB))) (hl : m.length ≤ 1000) (hbd : ∀ d ∈ m, (0 ≤ d.id ∧ d.id ≤ 1000) ∧ 0 ≤ d.size ∧ d.size ≤ 100000) (hin : VolsIn w0 p m) :
    Calls Tryd.prog 47 #[.slice pp m.length cc, .string ⟨#[32]⟩] w fun e w' => e = .returned (.string (statusB m)) ∧ Below w.heap.size w w' := by
  have hx : (strsW (m.map wordB)).length = m.length := by simp [strsW]
  rcases ow_slice hown with ⟨h1, h2, _⟩ | ⟨g, cap, h1⟩
  · have hm : m = [] := List.eq_nil_of_length_eq_zero h2
    subst hm
    refine (Tryd.strings_Join_none pp cc ⟨#[32]⟩ w).mono ?_
    rintro e w' ⟨rfl, rfl⟩
    exact ⟨rfl, Below.refl _ _⟩
  · injection h1 with a b c
    subst a; subst c
    obtain ⟨cur, h3, _, h4, h5, _⟩ := own_block hown
    have hlen2 : (m.map wordB).length = m.length := by simp
    have := Tryd.strings_Join g 0 cc (m.map wordB) ⟨#[32]⟩ w (fun j x hj => by
      have h6 := hown.cells (g := g) rfl j (.string x) (by simp only [strsW, List.getElem?_map, hj, Option.map_some])
      rw [ow_at] at h6; rw [Nat.zero_add]; exact h6) (Array.getElem?_eq_some_iff.1 h3).1 (by omega) (by omega) (by
        have := join_len ((m.map wordB).map (·.data.toList)) (fun x hx => by
          obtain ⟨y, hy, rfl⟩ := List.mem_map.1 hx
          obtain ⟨d, hd, rfl⟩ := List.mem_map.1 hy
          obtain ⟨i, hi⟩ := List.mem_iff_getElem?.1 hd
          obtain ⟨_, _, bp, c, _, _, _, _, q1, q2, _⟩ := hin i d hi
          have hb := hbd d hd
          have s1 := itoaB_size d.id (by omega) (by omega)
          have s2 := itoaB_size d.size (by omega) (by omega)
          have s3 := itoaB_size d.blocks.length (by omega) (by unfold maxLen at q2; omega)
          show (wordB d).data.toList.length ≤ 100
          have e1 : (wordB d).data.toList.length = (wordB d).size := by simp
          rw [e1]; unfold wordB
          simp only [ByteArray.size_append]
          have e2 : (⟨#[58]⟩ : ByteArray).size = 1 := rfl
          omega)
        simp only [List.length_map] at this
        show (Lib.join _ [32]).length ≤ _
        omega)
    rw [hlen2] at this
    exact this
theorem new_one (w : World) (s : ByteArray) : ∀ j u, [Value.string s][j]? = some u → (w.alloc (.cells #[Value.string s] 9)).cell? ((⟨w.heap.size, 0, none⟩ : Addr).add j) = some u := by
  intro j u hu
  rw [ow_at, World.cell?_alloc_at _ _ _ _ rfl]
  cases j with
  | zero => exact hu
  | succ j => simp at hu
theorem one_str (s : ByteArray) : ∀ u ∈ [Value.string s], u.oneCell' = true := by intro u hu; simp at hu; subst hu; rfl

theorem step_word {ops : Array Oper} {o : Oper} {a : Act} {K : Act → World → Prop} {Q : Exit → Act → World → Prop} {E : Prop} {v : Value} {k B : Nat} {xs : List Value} {s : ByteArray} {W : World}
    (hg : o.guard = none) (ho : o.op = .call { callee := .builtin .append, args := #[.tmp 12, .tmp 27], argTypes := #[71, 71] })
    (hs : a.eval (.tmp 12) = v) (hx : a.eval (.tmp 27) = .slice (some ⟨W.heap.size, 0, none⟩) 1 1) (hown : W.ownsRow B 9 1 v k xs) (hk : k ≤ 100000) (hB : B ≤ W.heap.size)
    (h : ∀ g cap w', w'.ownsRow B 9 1 (.slice (some ⟨g, 0, none⟩) (k + 1) cap) (k + 1) (xs ++ [.string s]) → (W.alloc (.cells #[.string s] 9)).grownBy w' v.ownBlock → K (a.put o.dst (.slice (some ⟨g, 0, none⟩) (k + 1) cap)) w') :
    if Region.wanted o (yielded ops a.tmps) = true then Oper.wp Tryd.prog o a (W.alloc (.cells #[.string s] 9)) K Q else E := by
  obtain ⟨i0, hi0, hz0, hz1, hz2⟩ := info_parts infoStrM
  exact step_append_lies _ hg (.tmp 12) (.tmp 27) 71 ho B 9 i0 (.string ⟨#[]⟩) 1 16 Tryd.underlying71 hi0 hz0 hz1 hz2 rfl Nat.one_pos v k xs hs (World.ownsRow.alloc hown _) ⟨W.heap.size, 0, none⟩ 1 1 [.string s] hx rfl (new_one W s) (one_str s) Nat.one_pos
    (by unfold maxLen; omega) (by omega) (by simp; omega) (W.heap.size + 1) (by simp) (fun g cap w' h1 h2 _ _ => h g cap w' h1 h2)

set_option maxRecDepth 100000 in
set_option maxHeartbeats 2000000 in
theorem status_any (m : List VolD) (p : Option Addr) (c : Nat) (w : World) (hin : VolsIn w p m) (hl : m.length ≤ 1000) (hbd : ∀ d ∈ m, (0 ≤ d.id ∧ d.id ≤ 1000) ∧ 0 ≤ d.size ∧ d.size ≤ 100000) (hp : Pow10 w) :
    Calls Tryd.prog 28 #[.slice p m.length c] w fun e w' => e = .returned (.string (statusB m)) ∧ Below w.heap.size w w' := by
  have HIN := Lib.hid hin; have HBD := Lib.hid hbd; have HP := Lib.hid hp
  have hlen : (m.length : Int) ≤ 1000 := by omega
  obtain ⟨i0, hi0, hz0, hz1, hz2⟩ := info_parts infoStrM
  clear hin hbd hp hl
  go_enter Tryd.func28, Tryd.ntmps28
  go_wp2_with fail
  go_loopw [3, 8] (fun v i wr => StRel m w v i wr) (fun _ i _ => m.length - (intOf i).toNat)
  case atStart => exact ⟨0, _, rfl, Nat.zero_le _, rfl, World.ownsRow_nil _ _ _ _, Below.refl _ _⟩
  case round =>
    obtain ⟨k, vv, hvv, hk, rfl, hown, hb⟩ := hrel
    subst hvv
    have HO := Lib.hid hown; have HB := Lib.hid hb
    clear hown hb
    by_cases hlt : k < m.length
    · have hki : (k : Int) < (m.length : Int) := by omega
      obtain ⟨d, hd⟩ : ∃ d, m[k]? = some d := ⟨_, List.getElem?_eq_getElem hlt⟩
      obtain ⟨g, o, bp, bc, rfl, h0, h1, h2, hb1, hb2, _⟩ := HIN.out.stays HB.out k d hd
      have hbd := HBD.out d (List.mem_of_getElem? hd)
      have HD := Lib.hid hd; have HBDD := Lib.hid hbd
      have s1 := itoaB_size d.id (by omega) (by omega)
      have s2 := itoaB_size d.size (by omega) (by omega)
      have hlb : (d.blocks.length : Int) ≤ 9223372036854775807 := by unfold maxLen at hb2; omega
      have s3 := itoaB_size d.blocks.length (by omega) (by omega)
      clear hd hbd
      go_wp2_with fail
      have hbox := (Below.refl wr.heap.size wr).alloc (Nat.le_refl _) (.cells #[.int .i64 d.id, .int .i64 d.size, .slice bp d.blocks.length bc] 41)
      have hS : STat w wr d bp bc (wr.alloc (.cells #[.int .i64 d.id, .int .i64 d.size, .slice bp d.blocks.length bc] 41)) := ⟨pow_stays HP.out (HB.out.trans (hbox.mono HB.out.size)), HB.out.trans (hbox.mono HB.out.size), by simp, by simp, by simp⟩
      have HO1 := Lib.hid (own_belowW HO.out hbox)
      obtain ⟨⟨b1, b2⟩, b3, b4⟩ := HBDD.out
      have HLT := Lib.hid (fun q (e : vv.ownBlock = some q) => HO.out.lt q e)
      have f1 : ¬ 9223372036854775807 < (itoaB d.id).size + 1 := by omega
      have f2 : ¬ 9223372036854775807 < (itoaB d.id).size + 1 + (itoaB d.size).size := by omega
      have f3 : ¬ 9223372036854775807 < (itoaB d.id).size + 1 + (itoaB d.size).size + 1 := by omega
      have f4 : ¬ 9223372036854775807 < (itoaB d.id).size + 1 + (itoaB d.size).size + 1 + (itoaB d.blocks.length).size := by omega
      have HOW := Lib.hid (own_belowW HO1.out (Below.refl _ _).drew)
      have HBW1 := Lib.hid (show w.heap.size ≤ (wr.alloc (.cells #[.int .i64 d.id, .int .i64 d.size, .slice bp d.blocks.length bc] 41)).drew.heap.size from Nat.le_trans HB.out.size hbox.size)
      have HKK := Lib.hid (show k ≤ 100000 by omega)
      clear hbox h0 h1 h2
      go_region_held3 (fun w' => Pow10 w' ∧ Below w.heap.size w w' ∧ w'.cell? ⟨wr.heap.size, 0, none⟩ = some (.int .i64 d.id) ∧ w'.cell? ⟨wr.heap.size, 1, none⟩ = some (.int .i64 d.size) ∧ w'.cell? ⟨wr.heap.size, 2, none⟩ = some (.slice bp d.blocks.length bc)) (first | exact hS.next (Below.refl _ _).drew | (refine STat.next ?_ (show Below _ _ _ by assumption); assumption) | (refine STat.next ?_ ((Below.refl _ _).alloc (Nat.le_refl _) _); assumption) | (refine STat.grown HP.out ?_ hgrow HLT.out; assumption)) (first
        | (go_at_call 46; refine (itoa_call _ ?_ ?_ _ ?_).mono ?_; (omega); (omega); exact (show Pow10 _ ∧ _ by assumption).1; rintro e w1 ⟨rfl, hb1⟩; have HOW := Lib.hid (own_belowW HOW.out hb1); have HBW1 := Lib.hid (Nat.le_trans HBW1.out hb1.size))
        | (refine step_word rfl rfl rfl rfl HOW.out HKK.out HBW1.out ?_; intro gg cap w4 hown1 hgrow))
      have HO4 := Lib.hid hown1
      clear hown1 hgrow
      go_wp2_with fail
      go_roundw
      case rel =>
        refine ⟨k + 1, _, rfl, by omega, by go_num, ?_, (show Pow10 _ ∧ Below _ _ _ ∧ _ by assumption).2.1⟩
        have e1 : strsW ((m.take (k + 1)).map wordB) = strsW ((m.take k).map wordB) ++ [.string (wordB d)] := by
          obtain ⟨hk2, hx⟩ := List.getElem?_eq_some_iff.1 HD.out
          rw [List.take_succ_eq_append_getElem hk2, hx]; simp [strsW]
        rw [e1]; exact HO4.out
      case measure => simp [intOf]; omega
    · obtain rfl : k = m.length := by omega
      have hvs : ∃ pp cc, vv = .slice pp m.length cc := by
        rcases ow_slice HO.out with ⟨h1, h2, _⟩ | ⟨g, cap, h1⟩
        · exact ⟨none, 0, by rw [h1, h2]⟩
        · exact ⟨_, cap, h1⟩
      obtain ⟨pp, cc, rfl⟩ := hvs
      have hj := join_any m pp cc _ w _ p (by have := HO.out; rw [List.take_length] at this; exact this) (by omega) HBD.out (HIN.out) 
      go_wp2_with fail
      refine hj.mono ?_
      rintro e w1 ⟨rfl, hb⟩
      have HB1 := Lib.hid (btrans HB.out hb); clear hb
      go_wp2_with fail
      go_ret
      exact ⟨rfl, HB1.out⟩
end Go.Proofs.YtgabifkechofnaaDoor
