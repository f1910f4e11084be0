/- Small lemmas for the walks: quiet calls behind quiet regions; worlds that parted in draws or in new blocks alone. No program in sight. · Small lemmas on rows that a call owns. No program in sight. · Trees of layer 16 as plain data, and how they lie in memory. No program in sight. · The walks of the reference's few and Count (layer 16). · The walk of the reference's Deep (layer 16). · Rows of elements of several cells that a call owns: stores, copies, what is cut and cleared. No program in sight. · append onto a row that the call owns, of whatever source: nil, empty or not. No program in sight. · Pairs of a tree, front to back, as plain data. No program in sight. -/
import Derived.WalkKit
import Derived.WalkSpells
import Derived.WalkLawsBesides
import Derived.Lib.Hide
import Derived.IntWalk
import Derived.Deep.QuietTactic
import Derived.BigQuiet
import Derived.Sort.Grow
import Derived.Deep.OwnRows
import Derived.Maps.AppendAt
import Derived.RangeFuncBox
import Derived.Test.YtpcmihgfcaelfaaProg
import Derived.Test.YtpcmihgfcaelfaaChecked
import Derived.Lib.AppendZeros
import Derived.Laws.CopyOwn
import Derived.Lib.AppendZerosOnto
import Derived.Lib.Overlaps
import Derived.Laws.Externs
import Derived.Laws.AppendOwnNone
namespace Go.Proofs.Ytpcmihgfcaelfaa
open Go.RowKit Go.Sort

theorem quiet_add {P : Program} {f : FuncId} {args : Array Value} {w : World} {a n : Nat} {v : Value}
    (h : Calls P f args (w.drewN (a + n)) fun e w' => e = .returned v ∧ ∃ m, w' = (w.drewN (a + n)).drewN m) :
    Calls P f args (w.drewN (a + n)) fun e w'' => e = .returned v ∧ ∃ m, w'' = w.drewN (a + m) :=
  h.mono fun _ _ ⟨he, m, hm⟩ => ⟨he, n + m, by rw [hm, World.drewN_drewN, Nat.add_assoc]⟩
theorem quiet_add_left {P : Program} {f : FuncId} {args : Array Value} {w : World} {a n : Nat} {v : Value}
    (h : Calls P f args (w.drewN (a + n)) fun e w' => e = .returned v ∧ w.drewN (a + n) = w') :
    Calls P f args (w.drewN (a + n)) fun e w'' => e = .returned v ∧ ∃ m, w'' = w.drewN (a + m) :=
  h.mono fun _ _ ⟨he, hm⟩ => ⟨he, n, hm.symm⟩
theorem quiet_left {P : Program} {f : FuncId} {args : Array Value} {w : World} {n : Nat} {v : Value}
    (h : Calls P f args (w.drewN n) fun e w' => e = .returned v ∧ w.drewN n = w') : Calls P f args (w.drewN n) fun e w'' => e = .returned v ∧ ∃ m, w'' = w.drewN m :=
  h.mono fun _ _ ⟨he, hm⟩ => ⟨he, n, hm.symm⟩

theorem below_grow (w : World) (os : Array Obj) : Below w.heap.size w (grow w os) := by
  refine ⟨rfl, rfl, rfl, by simp [grow], fun k hk => ?_⟩
  show (w.heap ++ os)[k]? = _
  rw [Array.getElem?_append_left hk]
theorem below_drewN' {B : Nat} {a w : World} (h : Below B a w) (n : Nat) : Below B a (w.drewN n) := ⟨h.os, h.tape, h.output, h.size, h.block⟩
theorem btrans {w w1 w2 : World} (h : Below w.heap.size w w1) (k : Below w1.heap.size w1 w2) : Below w.heap.size w w2 := h.trans (k.mono h.size)
theorem bcell {W w1 : World} (hb : Below W.heap.size W w1) : (∀ b o, b < W.heap.size → w1.cell? ⟨b, o, none⟩ = W.cell? ⟨b, o, none⟩) ∧ (∀ b o, b < W.heap.size → w1.frozen? ⟨b, o, none⟩ = W.frozen? ⟨b, o, none⟩) :=
  ⟨fun b o h => hb.cell (p := ⟨b, o, none⟩) h, fun b o h => hb.frozen (p := ⟨b, o, none⟩) h⟩
end Go.Proofs.Ytpcmihgfcaelfaa
namespace Go.Proofs.Ytpcmihgfcaelfaa
open Go.RowKit

theorem ow_mono {w : World} {B B' : Nat} {e : TypeId} {size n : Nat} {v : Value} {xs : List Value} (h : B ≤ B') (ho : w.ownsRow B' e size v n xs) : w.ownsRow B e size v n xs := by
  refine ⟨ho.1, ?_⟩
  rcases ho.2 with h1 | ⟨g, cap, cur, h1, h2, h3⟩
  · exact .inl h1
  · exact .inr ⟨g, cap, cur, h1, Nat.le_trans h h2, h3⟩
theorem ow_at (g j : Nat) : (⟨g, 0, none⟩ : Addr).add j = ⟨g, j, none⟩ := by unfold Addr.add; split <;> simp_all
theorem ow_at' (g o j : Nat) : (⟨g, o, none⟩ : Addr).add j = ⟨g, o + j, none⟩ := by unfold Addr.add; split <;> simp_all
theorem ow_cell {w : World} {B g cap n : Nat} {e : TypeId} {size : Nat} {xs : List Value} (h : w.ownsRow B e size (.slice (some ⟨g, 0, none⟩) n cap) n xs) (j : Nat) (hj : j < xs.length) : w.cell? ⟨g, j, none⟩ = some xs[j] := by
  have := h.cells (g := g) rfl j _ (List.getElem?_eq_getElem hj)
  rwa [ow_at] at this
theorem ow_cap {w : World} {B g cap m n : Nat} {e : TypeId} {size : Nat} {xs : List Value} (h : w.ownsRow B e size (.slice (some ⟨g, 0, none⟩) m cap) n xs) : m = n ∧ n ≤ cap ∧ B ≤ g ∧ g < w.heap.size := by
  rcases h.2 with ⟨h1, _⟩ | ⟨g', cap', cur, h1, h2, h3, h4, _⟩
  · cases h1
  · injection h1 with a b c
    injection a with a; injection a with a _
    subst a; subst b; subst c
    exact ⟨rfl, h4, h2, (Array.getElem?_eq_some_iff.1 h3).1⟩
/-- of one element: behind the append -/
theorem ow_grown {w wr w1 : World} {B : Nat} {o : Obj} {v : Value} {e : TypeId} {size n : Nat} {xs : List Value} (hb : Below B w wr) (hs : B ≤ wr.heap.size) (hown : wr.ownsRow B e size v n xs) (hg : (wr.alloc o).grownBy w1 v.ownBlock) : Below B w w1 :=
  (hb.alloc hs o).grown hg (by simp; omega) (fun k e => (hown.lt k e).1)

def bytesV (l : List UInt8) : List Value := l.map fun b => .int .u8 (b.toNat : Nat)
theorem bytesV_length (l : List UInt8) : (bytesV l).length = l.length := by simp [bytesV]
theorem bytesV_snoc (l : List UInt8) (b : UInt8) : bytesV l ++ [.int .u8 (b.toNat : Nat)] = bytesV (l ++ [b]) := by simp [bytesV]
/-- the text of a row of bytes -/
theorem ow_text {P : Program} {w : World} {B g cap : Nat} {e src dst : TypeId} {l : List UInt8} (hs : P.underlying src = some (.slice e)) (he : P.underlying e = some (.int .u8)) (hd : P.underlying dst = some .string)
    (h : w.ownsRow B e 1 (.slice (some ⟨g, 0, none⟩) l.length cap) l.length (bytesV l)) : (convert src dst (.slice (some ⟨g, 0, none⟩) l.length cap)).run P w = .ok (.string ⟨l.toArray⟩) w := by
  refine run_convert_bytes_back w src dst e ⟨g, 0, none⟩ cap l hs he hd (fun j hj => ?_)
  rw [ow_at, ow_cell h j (by rw [bytesV_length]; exact hj)]
  simp [bytesV]
end Go.Proofs.Ytpcmihgfcaelfaa
namespace Go.Proofs.Ytpcmihgfcaelfaa
open Go.RowKit

inductive NodeD where
  | mk (keys vals : List Int) (kids : List NodeD)
namespace NodeD
def keys : NodeD → List Int | .mk k _ _ => k
def vals : NodeD → List Int | .mk _ v _ => v
def kids : NodeD → List NodeD | .mk _ _ c => c
theorem ind {P : NodeD → Prop} (h : ∀ ks vs kids, (∀ t ∈ kids, P t) → P (.mk ks vs kids)) (t : NodeD) : P t :=
  match t with
  | .mk ks vs kids => h ks vs kids fun s _hs => ind (P := P) h s
termination_by SizeOf.sizeOf t
decreasing_by
  have := List.sizeOf_lt_of_mem ‹_ ∈ kids›
  simp; omega
end NodeD

def i64B (x : Int) : Prop := -9223372036854775808 ≤ x ∧ x ≤ 9223372036854775807
/-- ints, as they lie behind an address -/
def IntsIn (w : World) (p : Option Addr) (l : List Int) : Prop :=
  ∀ i x, l[i]? = some x → i64B x ∧ ∃ g o, p = some ⟨g, o, none⟩ ∧ w.cell? ⟨g, o + i, none⟩ = some (.int .i64 x)
def IntsAt (w : World) (v : Value) (l : List Int) : Prop := ∃ p c, v = .slice p l.length c ∧ l.length ≤ c ∧ c ≤ maxLen ∧ IntsIn w p l
mutual
/-- a node whose three fields have these values -/
def NodeAt (w : World) : NodeD → Value → Value → Value → Prop
  | .mk ks vs kids, a, b, c => IntsAt w a ks ∧ IntsAt w b vs ∧ ∃ p cap, c = .slice p kids.length cap ∧ kids.length ≤ cap ∧ cap ≤ maxLen ∧ KidsIn w p 0 kids
/-- nodes, as they lie behind an address, from place i on -/
def KidsIn (w : World) (p : Option Addr) : Nat → List NodeD → Prop
  | _, [] => True
  | i, t :: ts => (∃ g o x y z, p = some ⟨g, o, none⟩ ∧ w.cell? ⟨g, o + i * 3, none⟩ = some x ∧ w.cell? ⟨g, o + i * 3 + 1, none⟩ = some y ∧ w.cell? ⟨g, o + i * 3 + 2, none⟩ = some z ∧ NodeAt w t x y z) ∧ KidsIn w p (i + 1) ts
end
/-- one node of a row -/
def KidAt (w : World) (p : Option Addr) (i : Nat) (t : NodeD) : Prop :=
  ∃ g o x y z, p = some ⟨g, o, none⟩ ∧ w.cell? ⟨g, o + i * 3, none⟩ = some x ∧ w.cell? ⟨g, o + i * 3 + 1, none⟩ = some y ∧ w.cell? ⟨g, o + i * 3 + 2, none⟩ = some z ∧ NodeAt w t x y z
theorem kidsIn_iff {w : World} {p : Option Addr} : ∀ {l : List NodeD} {i : Nat}, KidsIn w p i l ↔ ∀ j t, l[j]? = some t → KidAt w p (i + j) t
  | [], i => ⟨fun _ j t h => by simp at h, fun _ => by simp only [KidsIn]⟩
  | a :: l, i => by
    simp only [KidsIn]
    rw [kidsIn_iff (l := l)]
    constructor
    · rintro ⟨h1, h2⟩ j t hj
      cases j with
      | zero => simp only [List.getElem?_cons_zero, Option.some.injEq] at hj; subst hj; exact h1
      | succ j =>
        rw [List.getElem?_cons_succ] at hj
        have := h2 j t hj
        rw [show i + (j + 1) = i + 1 + j by omega]; exact this
    · intro h
      refine ⟨h 0 a rfl, fun j t hj => ?_⟩
      have := h (j + 1) t (by rw [List.getElem?_cons_succ]; exact hj)
      rw [show i + 1 + j = i + (j + 1) by omega]; exact this
/-- nodes behind a slice value -/
def NodesAt (w : World) (v : Value) (l : List NodeD) : Prop := ∃ p c, v = .slice p l.length c ∧ l.length ≤ c ∧ c ≤ maxLen ∧ ∀ j t, l[j]? = some t → KidAt w p j t
theorem nodeAt_iff {w : World} {t : NodeD} {a b c : Value} : NodeAt w t a b c ↔ IntsAt w a t.keys ∧ IntsAt w b t.vals ∧ NodesAt w c t.kids := by
  cases t with
  | mk ks vs kids =>
    simp only [NodeAt, NodeD.keys, NodeD.vals, NodeD.kids, NodesAt, kidsIn_iff, Nat.zero_add]

theorem cell_stays {W W' : World} (hb : Below W.heap.size W W') {a : Addr} {v : Value} (h : W.cell? a = some v) : W'.cell? a = some v := (hb.cell (World.block_lt_of_cell? W _ h)).trans h
/-- a way from one world to another that keeps these cells -/
def Keeps (W W' : World) : Prop := ∀ (a : Addr) (v : Value), W.cell? a = some v → W'.cell? a = some v
theorem keeps_below {W W' : World} (hb : Below W.heap.size W W') : Keeps W W' := fun _ _ h => cell_stays hb h
theorem IntsIn.keep {w w' : World} {p : Option Addr} {l : List Int} (h : IntsIn w p l) (hk : Keeps w w') : IntsIn w' p l := fun i x hx => by
  obtain ⟨h0, g, o, h1, h2⟩ := h i x hx
  exact ⟨h0, g, o, h1, hk _ _ h2⟩
theorem IntsAt.keep {w w' : World} {v : Value} {l : List Int} (h : IntsAt w v l) (hk : Keeps w w') : IntsAt w' v l := by
  obtain ⟨p, c, h1, h2, h3, h4⟩ := h
  exact ⟨p, c, h1, h2, h3, h4.keep hk⟩
theorem NodeAt.keep {w w' : World} (hk : Keeps w w') : ∀ {t : NodeD} {a b c : Value}, NodeAt w t a b c → NodeAt w' t a b c := by
  intro t
  induction t using NodeD.ind with
  | h ks vs kids ih =>
    intro a b c h
    rw [nodeAt_iff] at h ⊢
    obtain ⟨h1, h2, p, cap, h3, h4, h5, h6⟩ := h
    refine ⟨h1.keep hk, h2.keep hk, p, cap, h3, h4, h5, fun j t hj => ?_⟩
    obtain ⟨g, o, x, y, z, e0, e1, e2, e3, e4⟩ := h6 j t hj
    exact ⟨g, o, x, y, z, e0, hk _ _ e1, hk _ _ e2, hk _ _ e3, ih t (List.mem_of_getElem? hj) e4⟩
theorem NodesAt.keep {w w' : World} {v : Value} {l : List NodeD} (h : NodesAt w v l) (hk : Keeps w w') : NodesAt w' v l := by
  obtain ⟨p, c, h1, h2, h3, h4⟩ := h
  refine ⟨p, c, h1, h2, h3, fun j t hj => ?_⟩
  obtain ⟨g, o, x, y, z, e0, e1, e2, e3, e4⟩ := h4 j t hj
  exact ⟨g, o, x, y, z, e0, hk _ _ e1, hk _ _ e2, hk _ _ e3, e4.keep hk⟩

/-- a volume: its number, its size, its map -/
structure VoD where
  id : Int
  size : Int
  map : NodeD
def VolV (w : World) (v : Value) (d : VoD) : Prop := ∃ a b c, v = .agg #[.int .i64 d.id, .int .i64 d.size, a, b, c] ∧ i64B d.id ∧ i64B d.size ∧ NodeAt w d.map a b c
/-- volumes behind a slice value: five cells each -/
def VolsAt (w : World) (v : Value) (l : List VoD) : Prop :=
  ∃ p cap, v = .slice p l.length cap ∧ l.length ≤ cap ∧ cap ≤ maxLen ∧ ∀ j d, l[j]? = some d → i64B d.id ∧ i64B d.size ∧ ∃ g o a b c, p = some ⟨g, o, none⟩ ∧ w.cell? ⟨g, o + j * 5, none⟩ = some (.int .i64 d.id) ∧ w.cell? ⟨g, o + j * 5 + 1, none⟩ = some (.int .i64 d.size) ∧
    w.cell? ⟨g, o + j * 5 + 2, none⟩ = some a ∧ w.cell? ⟨g, o + j * 5 + 3, none⟩ = some b ∧ w.cell? ⟨g, o + j * 5 + 4, none⟩ = some c ∧ NodeAt w d.map a b c
theorem VolsAt.keep {w w' : World} {v : Value} {l : List VoD} (h : VolsAt w v l) (hk : Keeps w w') : VolsAt w' v l := by
  obtain ⟨p, cap, h1, h2, h3, h4⟩ := h
  refine ⟨p, cap, h1, h2, h3, fun j d hj => ?_⟩
  obtain ⟨i1, i2, g, o, a, b, c, e0, e1, e2, e3, e4, e5, e6⟩ := h4 j d hj
  exact ⟨i1, i2, g, o, a, b, c, e0, hk _ _ e1, hk _ _ e2, hk _ _ e3, hk _ _ e4, hk _ _ e5, e6.keep hk⟩
end Go.Proofs.Ytpcmihgfcaelfaa
namespace Go.Proofs.Ytpcmihgfcaelfaa
open Go.RowKit

mutual
def fewB : NodeD → Bool
  | .mk ks vs kids => fewL kids && (decide (ks.length ≤ 30) && decide (vs.length ≤ 30) && decide (kids.length ≤ 30))
def fewL : List NodeD → Bool
  | [] => true
  | t :: ts => fewB t && fewL ts
end
theorem fewL_all : ∀ (l : List NodeD), fewL l = l.all fewB
  | [] => by simp only [fewL, List.all_nil]
  | t :: ts => by simp only [fewL, List.all_cons, fewL_all ts]
theorem retI {a b : Int} (h : a = b) : Ending.returned (.int .i64 a) = .returned (.int .i64 b) := by rw [h]
theorem retB {a b : Bool} (h : a = b) : Ending.returned (.bool a) = .returned (.bool b) := by rw [h]
/-- the box of a node -/
def NBox (g : Nat) (x y z : Value) (w : World) : Prop := w.cell? ⟨g, 0, none⟩ = some x ∧ w.cell? ⟨g, 1, none⟩ = some y ∧ w.cell? ⟨g, 2, none⟩ = some z
theorem NBox.below {g : Nat} {x y z : Value} {w w' : World} (h : NBox g x y z w) (hb : Below w.heap.size w w') : NBox g x y z w' := ⟨cell_stays hb h.1, cell_stays hb h.2.1, cell_stays hb h.2.2⟩

set_option maxRecDepth 100000 in
set_option maxHeartbeats 2000000 in
theorem few_any (t : NodeD) : ∀ (a b c : Value) (w : World), NodeAt w t a b c → Calls Try.prog 54 #[.agg #[a, b, c]] w fun e w' => e = .returned (.bool (fewB t)) ∧ Below w.heap.size w w' := by
  induction t using NodeD.ind with
  | h ks vs kids ih =>
    intro a b c w hn
    have HIH := Lib.hid ih; clear ih
    obtain ⟨⟨pa, ca, rfl, a1, a2, _⟩, ⟨pb, cb, rfl, b1, b2, _⟩, ⟨pc, cc, rfl, c1, c2, hk⟩⟩ := nodeAt_iff.1 hn
    simp only [NodeD.keys, NodeD.vals, NodeD.kids] at a1 b1 c1 hk ⊢
    have HK := Lib.hid hk; clear hk hn
    have hla : (ks.length : Int) ≤ 9223372036854775807 := by unfold maxLen at a2; omega
    have hlb : (vs.length : Int) ≤ 9223372036854775807 := by unfold maxLen at b2; omega
    have hlc : (kids.length : Int) ≤ 9223372036854775807 := by unfold maxLen at c2; omega
    clear a1 a2 b1 b2 c1 c2
    go_enter Try.func54, Try.ntmps54
    go_wp2_with fail
    go_loopw [3] (fun i wr => ∃ k : Nat, k ≤ kids.length ∧ i = .int .i64 k ∧ (∀ j, j < k → ∀ s, kids[j]? = some s → fewB s = true) ∧ NBox w.heap.size (.slice pa ks.length ca) (.slice pb vs.length cb) (.slice pc kids.length cc) wr ∧ Below w.heap.size w wr) (fun i _ => kids.length - (intOf i).toNat)
    case atStart => exact ⟨0, Nat.zero_le _, rfl, fun j hj => by omega, ⟨by simp, by simp, by simp⟩, (Below.refl _ _).alloc (Nat.le_refl _) _⟩
    case round =>
      obtain ⟨k, hk, rfl, hall, hbx, hb⟩ := hrel
      have HA := Lib.hid hall; have HX := Lib.hid hbx; have HB := Lib.hid hb
      obtain ⟨q0, q1, q2⟩ := hbx
      have hlx := World.block_lt_of_cell? _ _ q0
      clear hall hb
      by_cases hlt : k < kids.length
      case neg =>
        obtain rfl : k = kids.length := by omega
        have HF := Lib.hid (show fewB (.mk ks vs kids) = (decide (ks.length ≤ 30) && decide (vs.length ≤ 30) && decide (kids.length ≤ 30)) by
          simp only [fewB, fewL_all]
          rw [List.all_eq_true.2 (fun s hs => by obtain ⟨j, hj⟩ := List.mem_iff_getElem?.1 hs; exact HA.out j (List.getElem?_eq_some_iff.1 hj).1 s hj), Bool.true_and])
        have hc : (¬ (ks.length : Int) ≤ 30) ∨ ((ks.length : Int) ≤ 30 ∧ ¬ (vs.length : Int) ≤ 30) ∨ ((ks.length : Int) ≤ 30 ∧ (vs.length : Int) ≤ 30 ∧ ¬ (kids.length : Int) ≤ 30) ∨ ((ks.length : Int) ≤ 30 ∧ (vs.length : Int) ≤ 30 ∧ (kids.length : Int) ≤ 30) := by omega
        rcases hc with h1 | ⟨h1, h2⟩ | ⟨h1, h2, h3⟩ | ⟨h1, h2, h3⟩
        all_goals
          go_wp2_with fail
          go_ret
          refine ⟨retB ?_, HB.out⟩
          rw [HF.out]
          first | (simp; done) | (simp; omega)
      have hki : (k : Int) < (kids.length : Int) := by omega
      obtain ⟨s, hs⟩ : ∃ s, kids[k]? = some s := ⟨_, List.getElem?_eq_getElem hlt⟩
      obtain ⟨g, o, x, y, z, rfl, e1, e2, e3, e4⟩ := HK.out k s hs
      have r1 := cell_stays HB.out e1; have r2 := cell_stays HB.out e2; have r3 := cell_stays HB.out e3
      have HN := Lib.hid (e4.keep (keeps_below HB.out))
      have HS := Lib.hid hs; have HM := Lib.hid (List.mem_of_getElem? hs)
      clear hs e1 e2 e3 e4
      cases hfs : fewB s with
      | true =>
        have HT := Lib.hid hfs; clear hfs
        go_wp2_with fail
        refine (HIH.out s HM.out x y z _ HN.out).mono ?_
        rintro e w1 ⟨rfl, hb⟩
        rw [HT.out]
        have HB1 := Lib.hid (btrans HB.out hb); have HX1 := Lib.hid (HX.out.below hb); clear hb
        go_wp2_with fail
        go_roundw
        case rel =>
          refine ⟨k + 1, by omega, by go_num, fun j hj s' hs' => ?_, HX1.out, HB1.out⟩
          by_cases e : j = k
          · subst e; rw [HS.out] at hs'; cases hs'; exact HT.out
          · exact HA.out j (by omega) s' hs'
        case measure => simp [intOf]; omega
      | false =>
        have HT := Lib.hid hfs; clear hfs
        have HF := Lib.hid (show fewB (.mk ks vs kids) = false by
          simp only [fewB, fewL_all]
          rw [List.all_eq_false.2 ⟨s, HM.out, by rw [HT.out]; simp⟩, Bool.false_and])
        go_wp2_with fail
        refine (HIH.out s HM.out x y z _ HN.out).mono ?_
        rintro e w1 ⟨rfl, hb⟩
        rw [HT.out]
        have HB1 := Lib.hid (btrans HB.out hb); clear hb
        go_wp2_with fail
        go_ret
        exact ⟨retB HF.out.symm, HB1.out⟩

mutual
def countN : NodeD → Int → Int
  | .mk _ _ kids, most => countL kids 1 most
def countL : List NodeD → Int → Int → Int
  | [], n, _ => n
  | t :: ts, n, most => if n < most then countL ts (n + countN t (most - n)) most else n
end
theorem countL_bd (l : List NodeD) (hl : ∀ t ∈ l, ∀ m, 1 ≤ m → 1 ≤ countN t m ∧ countN t m ≤ m) : ∀ n most, 1 ≤ n → n ≤ most → n ≤ countL l n most ∧ countL l n most ≤ most := by
  induction l with
  | nil => intro n most h1 h2; simp only [countL]; omega
  | cons t ts ih =>
    intro n most h1 h2
    simp only [countL]
    split
    · have h3 := hl t (by simp) (most - n) (by omega)
      have h4 := ih (fun s hs => hl s (by simp [hs])) (n + countN t (most - n)) most (by omega) (by omega)
      omega
    · omega
theorem countN_bd (t : NodeD) : ∀ m, 1 ≤ m → 1 ≤ countN t m ∧ countN t m ≤ m := by
  induction t using NodeD.ind with
  | h ks vs kids ih =>
    intro m hm
    simp only [countN]
    exact countL_bd kids ih 1 m (by omega) hm
theorem countL_full (l : List NodeD) {n most : Int} (h : ¬ n < most) : countL l n most = n := by
  cases l with
  | nil => simp only [countL]
  | cons t ts => simp only [countL]; rw [if_neg h]

set_option maxRecDepth 100000 in
set_option maxHeartbeats 2000000 in
theorem count_any (t : NodeD) : ∀ (a b c : Value) (most : Int) (w : World), NodeAt w t a b c → 1 ≤ most → most ≤ 1000 → Calls Try.prog 27 #[.agg #[a, b, c], .int .i64 most] w fun e w' => e = .returned (.int .i64 (countN t most)) ∧ Below w.heap.size w w' := by
  induction t using NodeD.ind with
  | h ks vs kids ih =>
    intro a b c most w hn hm1 hm2
    have HIH := Lib.hid ih; clear ih
    obtain ⟨⟨pa, ca, rfl, _, _, _⟩, ⟨pb, cb, rfl, _, _, _⟩, ⟨pc, cc, rfl, c1, c2, hk⟩⟩ := nodeAt_iff.1 hn
    simp only [NodeD.keys, NodeD.vals, NodeD.kids] at c1 hk ⊢
    have HK := Lib.hid hk; clear hk hn
    have hlc : (kids.length : Int) ≤ 9223372036854775807 := by unfold maxLen at c2; omega
    clear c1 c2
    go_enter Try.func27, Try.ntmps27
    go_wp2_with fail
    go_loopw [5, 6] (fun v i wr => ∃ (k : Nat) (n : Int), k ≤ kids.length ∧ i = .int .i64 k ∧ v = .int .i64 n ∧ 1 ≤ n ∧ n ≤ most ∧ countN (.mk ks vs kids) most = countL (kids.drop k) n most ∧ NBox w.heap.size (.slice pa ks.length ca) (.slice pb vs.length cb) (.slice pc kids.length cc) wr ∧ Below w.heap.size w wr) (fun _ i _ => kids.length - (intOf i).toNat)
    case atStart => exact ⟨0, 1, Nat.zero_le _, rfl, rfl, by omega, hm1, by simp only [countN, List.drop_zero], ⟨by simp, by simp, by simp⟩, (Below.refl _ _).alloc (Nat.le_refl _) _⟩
    case round =>
      obtain ⟨k, n, hk, rfl, rfl, hn1, hn2, hcount, hbx, hb⟩ := hrel
      have HC := Lib.hid hcount; have HX := Lib.hid hbx; have HB := Lib.hid hb
      obtain ⟨q0, q1, q2⟩ := hbx
      have hlx := World.block_lt_of_cell? _ _ q0
      clear hcount hb
      by_cases hlt : k < kids.length
      case neg =>
        obtain rfl : k = kids.length := by omega
        have HF := Lib.hid (show countN (.mk ks vs kids) most = n by rw [HC.out, List.drop_length]; simp only [countL])
        go_wp2_with fail
        go_ret
        exact ⟨retI HF.out.symm, HB.out⟩
      have hki : (k : Int) < (kids.length : Int) := by omega
      by_cases hnm : n < most
      case neg =>
        have HF := Lib.hid (show countN (.mk ks vs kids) most = n by rw [HC.out, countL_full _ hnm])
        go_wp2_with fail
        go_ret
        exact ⟨retI HF.out.symm, HB.out⟩
      obtain ⟨s, hs⟩ : ∃ s, kids[k]? = some s := ⟨_, List.getElem?_eq_getElem hlt⟩
      obtain ⟨g, o, x, y, z, rfl, e1, e2, e3, e4⟩ := HK.out k s hs
      have r1 := cell_stays HB.out e1; have r2 := cell_stays HB.out e2; have r3 := cell_stays HB.out e3
      have HN := Lib.hid (e4.keep (keeps_below HB.out))
      have HM := Lib.hid (List.mem_of_getElem? hs)
      have hbd := countN_bd s (most - n) (by omega)
      have HC2 := Lib.hid (show countN (.mk ks vs kids) most = countL (kids.drop (k + 1)) (n + countN s (most - n)) most by
        obtain ⟨hk2, hx⟩ := List.getElem?_eq_some_iff.1 hs
        rw [HC.out, List.drop_eq_getElem_cons hk2, hx]; simp only [countL]; rw [if_pos hnm])
      obtain ⟨q, hq⟩ : ∃ q, countN s (most - n) = q := ⟨_, rfl⟩
      rw [hq] at hbd HC2
      have HQ := Lib.hid hq
      clear hs e1 e2 e3 e4 hq
      go_wp2_with fail
      refine (HIH.out s HM.out x y z (most - n) _ HN.out (by omega) (by omega)).mono ?_
      rintro e w1 ⟨rfl, hb⟩
      rw [HQ.out]
      have HB1 := Lib.hid (btrans HB.out hb); have HX1 := Lib.hid (HX.out.below hb); clear hb
      go_wp2_with fail
      go_roundw
      case rel => exact ⟨k + 1, n + q, by omega, by go_num, rfl, by omega, by omega, HC2.out, HX1.out, HB1.out⟩
      case measure => simp [intOf]; omega

def smallN (t : NodeD) : Bool := decide (countN t 400 < 400) && fewB t
theorem smallN_any (t : NodeD) (a b c : Value) (w : World) (hn : NodeAt w t a b c) : Calls Try.prog 26 #[.agg #[a, b, c]] w fun e w' => e = .returned (.bool (smallN t)) ∧ Below w.heap.size w w' := by
  have hbx : Below w.heap.size w (w.alloc (.cells #[a, b, c] 43)) := (Below.refl _ _).alloc (Nat.le_refl _) _
  have HN := Lib.hid hn; have HB := Lib.hid hbx
  obtain ⟨⟨pa, ca, rfl, _, _, _⟩, ⟨pb, cb, rfl, _, _, _⟩, ⟨pc, cc, rfl, _, _, _⟩⟩ := nodeAt_iff.1 hn
  clear hn hbx
  go_enter Try.func26, Try.ntmps26
  go_wp2_with fail
  refine (count_any t _ _ _ 400 _ (HN.out.keep (keeps_below HB.out)) (by omega) (by omega)).mono ?_
  rintro e w1 ⟨rfl, hb⟩
  have HB1 := Lib.hid (btrans HB.out hb)
  have HX1 := Lib.hid (show NBox w.heap.size (.slice pa t.keys.length ca) (.slice pb t.vals.length cb) (.slice pc t.kids.length cc) w1 from NBox.below ⟨by simp, by simp, by simp⟩ hb)
  clear hb
  obtain ⟨q, hq⟩ : ∃ q, countN t 400 = q := ⟨_, rfl⟩
  rw [hq]
  have HQ := Lib.hid hq; clear hq
  obtain ⟨q0, q1, q2⟩ := HX1.out
  have hlx := World.block_lt_of_cell? _ _ q0
  by_cases hlt : q < 400
  · have HF := Lib.hid (show smallN t = fewB t by unfold smallN; rw [HQ.out]; simp [hlt])
    go_wp2_with fail
    refine (few_any t _ _ _ _ (HN.out.keep (keeps_below HB1.out))).mono ?_
    rintro e w2 ⟨rfl, hb⟩
    have HB2 := Lib.hid (btrans HB1.out hb); clear hb
    go_wp2_with fail
    go_ret
    exact ⟨retB HF.out.symm, HB2.out⟩
  · have HF := Lib.hid (show smallN t = false by unfold smallN; rw [HQ.out]; simp; omega)
    go_wp2_with fail
    go_ret
    exact ⟨retB HF.out.symm, HB1.out⟩
end Go.Proofs.Ytpcmihgfcaelfaa
namespace Go.Proofs.Ytpcmihgfcaelfaa
open Go.RowKit

mutual
def deepN : NodeD → Int → Int
  | .mk _ _ kids, most => if most = 0 then 0 else deepK kids (most - 1)
def deepK : List NodeD → Int → Int
  | [], _ => 1
  | t :: ts, m => if deepL ts m (deepN t m) = true then (if deepN t m = 0 then 0 else deepN t m + 1) else 0
def deepL : List NodeD → Int → Int → Bool
  | [], _, _ => true
  | t :: ts, m, d => decide (deepN t m = d) && deepL ts m d
end
theorem deepL_all (m d : Int) : ∀ l : List NodeD, deepL l m d = l.all fun t => decide (deepN t m = d)
  | [] => by simp only [deepL, List.all_nil]
  | t :: ts => by simp only [deepL, List.all_cons, deepL_all m d ts]
theorem deepN_bd (t : NodeD) : ∀ m, 0 ≤ m → 0 ≤ deepN t m ∧ deepN t m ≤ m := by
  induction t using NodeD.ind with
  | h ks vs kids ih =>
    intro m hm
    simp only [deepN]
    split
    · omega
    · cases kids with
      | nil => simp only [deepK]; omega
      | cons t ts =>
        have := ih t (by simp) (m - 1) (by omega)
        simp only [deepK]
        split
        · split <;> omega
        · omega

set_option maxRecDepth 100000 in
set_option maxHeartbeats 2000000 in
theorem deep_any (t : NodeD) : ∀ (a b c : Value) (most : Int) (w : World), NodeAt w t a b c → 0 ≤ most → most ≤ 1000 → Calls Try.prog 79 #[.agg #[a, b, c], .int .i64 most] w fun e w' => e = .returned (.int .i64 (deepN t most)) ∧ Below w.heap.size w w' := by
  induction t using NodeD.ind with
  | h ks vs kids ih =>
    intro a b c most w hn hm1 hm2
    have HIH := Lib.hid ih; clear ih
    obtain ⟨⟨pa, ca, rfl, _, _, _⟩, ⟨pb, cb, rfl, _, _, _⟩, ⟨pc, cc, rfl, c1, c2, hk⟩⟩ := nodeAt_iff.1 hn
    simp only [NodeD.keys, NodeD.vals, NodeD.kids] at c1 hk ⊢
    have HK := Lib.hid hk; clear hk hn
    have hlc : (kids.length : Int) ≤ 9223372036854775807 := by unfold maxLen at c2; omega
    clear c1 c2
    have HB0 := Lib.hid (show Below w.heap.size w (w.alloc (.cells #[.slice pa ks.length ca, .slice pb vs.length cb, .slice pc kids.length cc] 43)) from (Below.refl _ _).alloc (Nat.le_refl _) _)
    by_cases h0 : most = 0
    · have HF := Lib.hid (show deepN (.mk ks vs kids) most = 0 by simp only [deepN]; rw [if_pos h0])
      have hb0 : (most == 0) = true := by simpa using h0
      clear h0
      go_enter Try.func79, Try.ntmps79
      go_wp2_with fail
      go_ret
      exact ⟨retI HF.out.symm, HB0.out⟩
    have hb0 : (most == 0) = false := by simpa using h0
    have H0 := Lib.hid h0; have hm0 : 1 ≤ most := by omega
    clear h0
    cases kids with
    | nil =>
      have HF := Lib.hid (show deepN (.mk ks vs []) most = 1 by simp only [deepN, deepK]; rw [if_neg H0.out])
      go_enter Try.func79, Try.ntmps79
      go_wp2_with fail
      go_ret
      exact ⟨retI HF.out.symm, HB0.out⟩
    | cons t0 ts =>
      have hl1 : ((t0 :: ts).length : Int) = (ts.length : Int) + 1 := by simp
      obtain ⟨N, hN⟩ : ∃ N : Nat, (t0 :: ts).length = N := ⟨_, rfl⟩
      have hNp : 0 < (N : Int) := by rw [List.length_cons] at hN; omega
      have hNp2 : ((N : Int) == 0) = false := by rw [beq_eq_false_iff_ne]; omega
      rw [hN] at hlc HB0 ⊢
      have HNL := Lib.hid hN; clear hN hl1
      obtain ⟨g, o, x, y, z, rfl, e1, e2, e3, e4⟩ := HK.out 0 t0 rfl
      simp only [Nat.zero_mul, Nat.add_zero] at e1 e2 e3
      have r1 := cell_stays HB0.out e1; have r2 := cell_stays HB0.out e2; have r3 := cell_stays HB0.out e3
      have HN0 := Lib.hid (e4.keep (keeps_below HB0.out))
      have hg := World.block_lt_of_cell? _ _ e1
      clear e4
      go_enter Try.func79, Try.ntmps79
      go_wp2_with fail
      refine (HIH.out t0 (by simp) x y z (most - 1) _ HN0.out (by omega) (by omega)).mono ?_
      rintro e w1 ⟨rfl, hb⟩
      have hd := deepN_bd t0 (most - 1) (by omega)
      obtain ⟨D, hD⟩ : ∃ D, deepN t0 (most - 1) = D := ⟨_, rfl⟩
      rw [hD] at hd ⊢
      have HD := Lib.hid hD; clear hD
      have HB1 := Lib.hid (btrans HB0.out hb)
      have HX1 := Lib.hid (show NBox w.heap.size (.slice pa ks.length ca) (.slice pb vs.length cb) (.slice (some ⟨g, o, none⟩) N cc) w1 from NBox.below ⟨by simp, by simp, by simp⟩ hb)
      have HE := Lib.hid (show deepN (.mk ks vs (t0 :: ts)) most = if (ts.all fun s => decide (deepN s (most - 1) = D)) = true then (if D = 0 then 0 else D + 1) else 0 by
        simp only [deepN, deepK, deepL_all, HD.out]; rw [if_neg H0.out])
      clear hb e1 e2 e3 r1 r2 r3
      have hlx1 := World.block_lt_of_cell? _ _ HX1.out.1
      obtain ⟨q0, q1, q2⟩ := HX1.out
      go_wp2_with fail
      go_loopw [6] (fun i wr => ∃ k : Nat, 1 ≤ k ∧ k ≤ N ∧ i = .int .i64 k ∧ (∀ j, 1 ≤ j → j < k → ∀ s, (t0 :: ts)[j]? = some s → deepN s (most - 1) = D) ∧ NBox w.heap.size (.slice pa ks.length ca) (.slice pb vs.length cb) (.slice (some ⟨g, o, none⟩) N cc) wr ∧ Below w.heap.size w wr) (fun i _ => N - (intOf i).toNat)
      case atStart => exact ⟨1, Nat.le_refl _, by omega, rfl, fun j h1 h2 => by omega, HX1.out, HB1.out⟩
      case round =>
        clear q0 q1 q2 hlx1
        obtain ⟨k, hk1, hk, rfl, hall, hbx, hb⟩ := hrel
        have HA := Lib.hid hall; have HX := Lib.hid hbx; have HB := Lib.hid hb
        obtain ⟨q0, q1, q2⟩ := hbx
        have hlx := World.block_lt_of_cell? _ _ q0
        clear hall hb
        by_cases hlt : k < N
        case neg =>
          obtain rfl : k = N := by omega
          have HAL := Lib.hid (show (ts.all fun s => decide (deepN s (most - 1) = D)) = true from List.all_eq_true.2 (fun s hs => by
            obtain ⟨j, hj⟩ := List.mem_iff_getElem?.1 hs
            have hjl := (List.getElem?_eq_some_iff.1 hj).1
            have hNl := HNL.out
            rw [List.length_cons] at hNl
            exact decide_eq_true (HA.out (j + 1) (by omega) (by omega) s (by rw [List.getElem?_cons_succ]; exact hj))))
          by_cases hz : D = 0
          · have HF := Lib.hid (show deepN (.mk ks vs (t0 :: ts)) most = 0 by rw [HE.out, if_pos HAL.out, if_pos hz])
            have hzb : (D == 0) = true := by simpa using hz
            clear hz
            go_wp2_with fail
            go_ret
            exact ⟨retI HF.out.symm, HB.out⟩
          · have HF := Lib.hid (show deepN (.mk ks vs (t0 :: ts)) most = D + 1 by rw [HE.out, if_pos HAL.out, if_neg hz])
            have hzb : (D == 0) = false := by simpa using hz
            clear hz
            go_wp2_with fail
            go_ret
            exact ⟨retI HF.out.symm, HB.out⟩
        have hki : (k : Int) < (N : Int) := by omega
        obtain ⟨s, hs⟩ : ∃ s, (t0 :: ts)[k]? = some s := ⟨_, List.getElem?_eq_getElem (by rw [HNL.out]; exact hlt)⟩
        obtain ⟨g', o', x', y', z', hgo, e1, e2, e3, e4⟩ := HK.out k s hs
        cases hgo
        have r1 := cell_stays HB.out e1; have r2 := cell_stays HB.out e2; have r3 := cell_stays HB.out e3
        have HN := Lib.hid (e4.keep (keeps_below HB.out))
        have HS := Lib.hid hs; have HM := Lib.hid (List.mem_of_getElem? hs)
        have hsd := deepN_bd s (most - 1) (by omega)
        obtain ⟨E, hE⟩ : ∃ E, deepN s (most - 1) = E := ⟨_, rfl⟩
        rw [hE] at hsd
        have HEE := Lib.hid hE
        clear hs e1 e2 e3 e4 hE
        by_cases hed : E = D
        · have hne : (E != D) = false := by simpa using hed
          have HED := Lib.hid hed; clear hed
          go_wp2_with fail
          refine (HIH.out s HM.out x' y' z' (most - 1) _ HN.out (by omega) (by omega)).mono ?_
          rintro e w2 ⟨rfl, hb⟩
          rw [HEE.out]
          have HB2 := Lib.hid (btrans HB.out hb); have HX2 := Lib.hid (HX.out.below hb); clear hb
          go_wp2_with fail
          go_roundw
          case rel =>
            refine ⟨k + 1, by omega, by omega, by go_num, fun j h1 h2 s' hs' => ?_, HX2.out, HB2.out⟩
            by_cases e : j = k
            · subst e; rw [HS.out] at hs'; cases hs'; rw [HEE.out]; exact HED.out
            · exact HA.out j h1 (by omega) s' hs'
          case measure => simp [intOf]; omega
        · have hne : (E != D) = true := by simpa using hed
          have HF := Lib.hid (show deepN (.mk ks vs (t0 :: ts)) most = 0 by
            obtain ⟨j, rfl⟩ : ∃ j, k = j + 1 := ⟨k - 1, by omega⟩
            have hsm := HS.out
            rw [List.getElem?_cons_succ] at hsm
            rw [HE.out, if_neg]
            intro hall
            have := List.all_eq_true.1 hall s (List.mem_of_getElem? hsm)
            rw [HEE.out] at this
            exact hed (by simpa using this))
          clear hed
          go_wp2_with fail
          refine (HIH.out s HM.out x' y' z' (most - 1) _ HN.out (by omega) (by omega)).mono ?_
          rintro e w2 ⟨rfl, hb⟩
          rw [HEE.out]
          have HB2 := Lib.hid (btrans HB.out hb); clear hb
          go_wp2_with fail
          go_ret
          exact ⟨retI HF.out.symm, HB2.out⟩
end Go.Proofs.Ytpcmihgfcaelfaa
namespace Go.Proofs.Ytpcmihgfcaelfaa
open Go.RowKit

/-- a slice value and the cells behind it -/
def SrcAt (w : World) (p : Option Addr) (n k : Nat) (xs : List Value) : Prop :=
  xs.length = n * k ∧ (p = none → n = 0) ∧ (∀ u ∈ xs, u.oneCell' = true) ∧ ∀ a, p = some a → ∀ j u, xs[j]? = some u → w.cell? (a.add j) = some u
theorem SrcAt.stays {w w' : World} {p : Option Addr} {n k : Nat} {xs : List Value} (h : SrcAt w p n k xs) (hb : Below w.heap.size w w') : SrcAt w' p n k xs :=
  ⟨h.1, h.2.1, h.2.2.1, fun a ha j u hu => (hb.cell (World.block_lt_of_cell? w _ (h.2.2.2 a ha j u hu))).trans (h.2.2.2 a ha j u hu)⟩

theorem own_block {w : World} {B : Nat} {e : TypeId} {k n g cap : Nat} {xs : List Value} (h : w.ownsRow B e k (.slice (some ⟨g, 0, none⟩) n cap) n xs) :
    ∃ cur : Array Value, w.heap[g]? = some (.cells cur e (0, 0)) ∧ B ≤ g ∧ n ≤ cap ∧ cap ≤ maxLen ∧ cur.size = cap * k ∧ cur.toList.take (n * k) = xs := by
  rcases h.2 with ⟨h1, _⟩ | ⟨g', cap', cur, h1, h2, h3, h4, h5, h6, h7⟩
  · cases h1
  · injection h1 with a b c
    injection a with a; injection a with a _
    subst a; subst c
    exact ⟨cur, h3, h2, h4, h5, h6, h7⟩
/-- a store into a cell of the row -/
theorem ow_set {w : World} {B : Nat} {e : TypeId} {k n g cap : Nat} {xs : List Value} (h : w.ownsRow B e k (.slice (some ⟨g, 0, none⟩) n cap) n xs) (j : Nat) (u : Value) (_hj : j < xs.length) :
    (w.setCell ⟨g, j, none⟩ u).ownsRow B e k (.slice (some ⟨g, 0, none⟩) n cap) n (xs.set j u) := by
  obtain ⟨cur, h3, h2, h4, h5, h6, h7⟩ := own_block h
  refine ⟨by rw [List.length_set]; exact h.1, .inr ⟨g, cap, cur.setIfInBounds j u, rfl, h2, ?_, h4, h5, by simpa using h6, ?_⟩⟩
  · rw [setCell_eq_setRow w g j cur e (0, 0) u h3]; exact setRow_heap w g cur _ e _ h3
  · rw [Array.toList_setIfInBounds, List.take_set, h7]
/-- .. of which the row's cells may be written -/
theorem ow_free {w : World} {B : Nat} {e : TypeId} {k n g cap : Nat} {xs : List Value} (h : w.ownsRow B e k (.slice (some ⟨g, 0, none⟩) n cap) n xs) (j : Nat) : w.frozen? ⟨g, j, none⟩ = false := by
  obtain ⟨cur, h3, _⟩ := own_block h
  simp [World.frozen?, h3]
theorem ow_slice {w : World} {B : Nat} {e : TypeId} {k n : Nat} {v : Value} {xs : List Value} (h : w.ownsRow B e k v n xs) : v = .slice none 0 0 ∧ n = 0 ∧ xs = [] ∨ ∃ g cap, v = .slice (some ⟨g, 0, none⟩) n cap := by
  rcases h.2 with ⟨h1, h2⟩ | ⟨g, cap, cur, h1, _⟩
  · exact .inl ⟨h1, h2, List.eq_nil_of_length_eq_zero (by rw [h.1, h2, Nat.zero_mul])⟩
  · exact .inr ⟨g, cap, h1⟩
theorem ow_src {w : World} {B : Nat} {e : TypeId} {k n : Nat} {v : Value} {xs : List Value} (h : w.ownsRow B e k v n xs) (h1 : ∀ u ∈ xs, u.oneCell' = true) : ∃ p c, v = .slice p n c ∧ n ≤ c ∧ c ≤ maxLen ∧ SrcAt w p n k xs := by
  rcases ow_slice h with ⟨hv, hn, hx⟩ | ⟨g, cap, hv⟩
  · subst hn; subst hx
    exact ⟨none, 0, hv, Nat.le_refl _, Nat.zero_le _, by simp, fun _ => rfl, by simp, by simp⟩
  · subst hv
    obtain ⟨cur, _, _, h4, h5, _⟩ := own_block h
    refine ⟨_, cap, rfl, h4, h5, h.1, (fun e => by cases e), h1, fun a ha j u hu => ?_⟩
    cases ha
    have hj : j < xs.length := (List.getElem?_eq_some_iff.1 hu).1
    have := ow_cell h j hj
    rw [ow_at, this, ← hu, List.getElem?_eq_getElem hj]

theorem grown_of_below {w w' : World} (h : Below w.heap.size w w') (row : Option Nat) : w.grownBy w' row := ⟨h.os, h.tape, h.output, h.size, fun k hk _ => h.block k hk⟩
theorem grown_setCell (w : World) (g j : Nat) (u : Value) : w.grownBy (w.setCell ⟨g, j, none⟩ u) (some g) :=
  ⟨rfl, rfl, rfl, by simp, fun k _ hk => Below.heap_setCell _ _ _ k (fun e => hk (by rw [e]))⟩
theorem grown_setRow (w : World) (g : Nat) (c : Array Value) : w.grownBy (w.setRow g c) (some g) :=
  ⟨rfl, rfl, rfl, by simp [World.setRow], fun k _ hk => setRow_other w g k c (fun e => hk (by rw [e]))⟩
theorem grown_trans {A B C : World} {row : Option Nat} (h : A.grownBy B row) (k : B.grownBy C row) : A.grownBy C row :=
  ⟨k.os.trans h.os, k.tape.trans h.tape, k.output.trans h.output, Nat.le_trans h.size k.size, fun i hi hne => (k.block i (Nat.lt_of_lt_of_le hi h.size) hne).trans (h.block i hi hne)⟩
theorem grown_refl (w : World) (row : Option Nat) : w.grownBy w row := ⟨rfl, rfl, rfl, Nat.le_refl _, fun _ _ _ => rfl⟩
theorem grown_drew {A B : World} {row : Option Nat} (h : A.grownBy B row) (n : Nat) : A.grownBy (B.drewN n) row := ⟨h.os, h.tape, h.output, h.size, h.block⟩
theorem below_of_grown {w w' : World} {row : Option Nat} {B : Nat} (h : w.grownBy w' row) (hB : B ≤ w.heap.size) (hr : ∀ k, row = some k → B ≤ k) : Below B w w' :=
  ⟨h.os, h.tape, h.output, h.size, fun k hk => h.block k (Nat.lt_of_lt_of_le hk hB) (fun e => by have := hr k e.symm; omega)⟩

section
variable {α : Type}
/-- rows of k cells each, laid one behind the other -/
def AllLen (k : Nat) (L : List (List α)) : Prop := ∀ l ∈ L, l.length = k
theorem flat_length {k : Nat} : ∀ {L : List (List α)}, AllLen k L → L.flatten.length = L.length * k
  | [], _ => by simp
  | l :: L, h => by
    rw [List.flatten_cons, List.length_append, flat_length (fun x hx => h x (by simp [hx])), h l (by simp), List.length_cons, Nat.add_mul, Nat.one_mul, Nat.add_comm]
theorem flat_take {k : Nat} : ∀ {L : List (List α)} (i : Nat), AllLen k L → L.flatten.take (i * k) = (L.take i).flatten
  | [], i, _ => by simp
  | l :: L, 0, _ => by simp
  | l :: L, i + 1, h => by
    have hl := h l (by simp)
    rw [List.flatten_cons, List.take_succ_cons, List.flatten_cons, ← flat_take i (fun x hx => h x (by simp [hx])), Nat.add_mul, Nat.one_mul, List.take_append, hl]
    rw [List.take_of_length_le (by rw [hl]; omega), Nat.add_sub_cancel]
theorem flat_drop {k : Nat} : ∀ {L : List (List α)} (i : Nat), AllLen k L → L.flatten.drop (i * k) = (L.drop i).flatten
  | [], i, _ => by simp
  | l :: L, 0, _ => by simp
  | l :: L, i + 1, h => by
    have hl := h l (by simp)
    rw [List.flatten_cons, List.drop_succ_cons, ← flat_drop i (fun x hx => h x (by simp [hx])), Nat.add_mul, Nat.one_mul, List.drop_append, hl]
    rw [List.drop_of_length_le (by rw [hl]; omega), Nat.add_sub_cancel, List.nil_append]
theorem flat_get {k : Nat} {L : List (List α)} (h : AllLen k L) {i r : Nat} {l : List α} (hl : L[i]? = some l) (hr : r < k) : L.flatten[i * k + r]? = l[r]? := by
  have h1 : L.flatten[i * k + r]? = (L.flatten.drop (i * k))[r]? := by rw [List.getElem?_drop]
  obtain ⟨hi, hx⟩ := List.getElem?_eq_some_iff.1 hl
  rw [h1, flat_drop i h, List.drop_eq_getElem_cons hi, hx, List.flatten_cons, List.getElem?_append_left (by rw [h l (by rw [← hx]; exact List.getElem_mem hi)]; exact hr)]
theorem flat_set {k : Nat} : ∀ {L : List (List α)} {i r : Nat} {l : List α} (u : α), AllLen k L → L[i]? = some l → r < k → L.flatten.set (i * k + r) u = (L.set i (l.set r u)).flatten
  | [], i, r, l, u, _, hl, _ => by simp at hl
  | l0 :: L, 0, r, l, u, h, hl, hr => by
    simp only [List.getElem?_cons_zero, Option.some.injEq] at hl
    subst hl
    rw [Nat.zero_mul, Nat.zero_add, List.flatten_cons, List.set_cons_zero, List.flatten_cons, List.set_append_left _ _ (by rw [h l0 (by simp)]; exact hr)]
  | l0 :: L, i + 1, r, l, u, h, hl, hr => by
    have h0 := h l0 (by simp)
    rw [List.flatten_cons, List.set_cons_succ, List.flatten_cons, ← flat_set u (fun x hx => h x (by simp [hx])) (by simpa using hl) hr, List.set_append_right _ _ (by rw [h0, Nat.add_mul]; omega), h0]
    congr 2
    rw [Nat.add_mul]; omega
end

/-- copy into a row that is known whole, elements of k cells -/
theorem run_copy_k {P : Program} (w : World) (dT sT ty elem : TypeId) (k g o dLen dCap : Nat) (a : Addr) (sLen sCap m : Nat) (cur : Array Value) (t : TypeId) (cs : List Value)
    (hu : P.underlying dT = some (.slice elem)) (hs : (P.info? elem).map (·.size) = some k)
    (hg : w.heap[g]? = some (.cells cur t (0, 0))) (hm : Nat.min sLen dLen = m) (hn : cs.length = m * k)
    (hsrc : ∀ j v, cs[j]? = some v → w.cell? (a.add j) = some v) (hfit : o + cs.length ≤ cur.size) (h1 : ∀ v ∈ cs, v.oneCell' = true) :
    (Builtin.copy_ #[dT, sT] ty #[.slice (some ⟨g, o, none⟩) dLen dCap, .slice (some a) sLen sCap]).run P w =
      .ok (goInt m) (w.setRow g (cur.toList.take o ++ cs ++ cur.toList.drop (o + cs.length)).toArray) := by
  have hl := run_loadCells_list (P := P) w a cs hsrc
  have hst := run_storeCells_at P g o t cs 0 cur w hg (by simpa using hfit) h1
  cases hq : P.info? elem with
  | none => simp [hq] at hs
  | some i =>
    have hi : i.size = k := by simpa [hq] using hs
    simp [Builtin.copy_, run_underlying hu, Builtin.lenOf, Builtin.firstCells, sizeOf, typeInfo, hq, hi, hm, ← hn, hl, hst]

theorem wp_copy_runM {P : Program} (w : World) {o : Oper} {a : Act} {K : Act → World → Prop} {Q : Exit → Act → World → Prop} (d s : Operand) (t t' : TypeId)
    (ho : o.op = .call { callee := .builtin .copy, args := #[d, s], argTypes := #[t, t'] }) (v u : Value) (hd : a.eval d = v) (hs : a.eval s = u) {v' : Value} {w' : World}
    (hr : (Builtin.copy_ #[t, t'] o.type #[v, u]).run P w = .ok v' w') (h : K (a.put o.dst v') w') : o.wp P a w K Q := by
  unfold Oper.wp execOp
  simp only [ho, resolve, invoke, builtin, Sem.run_bind, Sem.run_pure, Result.andThen_ok, List.map_toArray, List.map_cons, List.map_nil, hd, hs, hr]
  exact h
theorem wpList_copy_runM {P : Program} (w : World) {ops : Array Oper} {rest : List Oper} {o : Oper} {a : Act} {Q : Exit → Act → World → Prop} (hgd : o.guard = none) (d s : Operand) (t t' : TypeId)
    (ho : o.op = .call { callee := .builtin .copy, args := #[d, s], argTypes := #[t, t'] }) (v u : Value) (hd : a.eval d = v) (hs : a.eval s = u) {v' : Value} {w' : World}
    (hr : (Builtin.copy_ #[t, t'] o.type #[v, u]).run P w = .ok v' w') (h : wpList P ops Q rest (a.put o.dst v') w') : wpList P ops Q (o :: rest) a w :=
  wpList_plain hgd fun _ hK => wp_copy_runM w d s t t' ho v u hd hs hr (hK _ _ h)
theorem step_copy_runM {P : Program} {ops : Array Oper} {o : Oper} {a : Act} {w : World} {K : Act → World → Prop} {Q : Exit → Act → World → Prop} {E : Prop}
    (hg : o.guard = none) (d x : Operand) (dT sT : TypeId) (hop : o.op = Op.call { callee := Callee.builtin Builtin.copy, args := #[d, x], argTypes := #[dT, sT] })
    (v u : Value) (hd : a.eval d = v) (hx : a.eval x = u) {v' : Value} {w' : World} (hr : (Builtin.copy_ #[dT, sT] o.type #[v, u]).run P w = .ok v' w') (hK : K (a.put o.dst v') w') :
    if Region.wanted o (yielded ops a.tmps) = true then Oper.wp P o a w K Q else E := by
  have hw : Region.wanted o (yielded ops a.tmps) = true := by simp [Region.wanted, hg]
  rw [if_pos hw]
  unfold Oper.wp
  simp [execOp, hop, resolve, invoke, builtin, hd, hx, hr, Result.andThen]
  exact hK
theorem new_at {W : World} {o : Obj} {nb : Nat} (h : nb = W.heap.size) : (W.alloc o).heap[nb]? = some o := by subst h; exact World.alloc_heap_new W o
/-- clear of elements of k cells, in a row that is known whole -/
theorem run_clear_k {P : Program} (w : World) (t ty e : TypeId) (z : Value) (g o n c : Nat) (cur : Array Value) (te : TypeId) (ht : P.underlying t = some (.slice e)) (hz : ∀ w, (zeroValue e).run P w = .ok z w)
    (hg : w.heap[g]? = some (.cells cur te (0, 0))) (hn : 0 < n) (hfit : o + n * z.cells.size ≤ cur.size) (h1 : ∀ u ∈ (Builtin.zeroCells z.cells n).toList, u.oneCell' = true) :
    (Builtin.clear_ #[t] ty #[.slice (some ⟨g, o, none⟩) n c]).run P w = .ok (.tuple #[]) (w.setRow g (cur.toList.take o ++ (Builtin.zeroCells z.cells n).toList ++ cur.toList.drop (o + (Builtin.zeroCells z.cells n).toList.length)).toArray) := by
  have hl : (Builtin.zeroCells z.cells n).toList.length = n * z.cells.size := by rw [Array.length_toList, size_zeroCells]
  have hst := run_storeCells_at P g o te (Builtin.zeroCells z.cells n).toList 0 cur w hg (by rw [hl]; simpa using hfit) h1
  obtain ⟨m, rfl⟩ : ∃ m, n = m + 1 := ⟨n - 1, by omega⟩
  simp only [Nat.add_zero] at hst
  simp [Builtin.clear_, run_underlying ht, hz, hst]
/-- the row cut to its first i elements, behind which something else of the same length is laid -/
theorem ow_cleared {w : World} {B : Nat} {e : TypeId} {k n g cap : Nat} {xs : List Value} (h : w.ownsRow B e k (.slice (some ⟨g, 0, none⟩) n cap) n xs) (i : Nat) (hi : i ≤ n) :
    ∃ cur : Array Value, w.heap[g]? = some (.cells cur e (0, 0)) ∧ cur.size = cap * k ∧ n ≤ cap ∧ ∀ zs : List Value, zs.length = (n - i) * k →
      ∀ W : World, W.heap = w.heap → (W.setRow g (cur.toList.take (i * k) ++ zs ++ cur.toList.drop (i * k + zs.length)).toArray).ownsRow B e k (.slice (some ⟨g, 0, none⟩) i cap) i (xs.take (i * k)) := by
  obtain ⟨cur, h3, h2, h4, h5, h6, h7⟩ := own_block h
  refine ⟨cur, h3, h6, h4, fun zs hz W hW => ?_⟩
  have hcl : cur.toList.length = cap * k := by simp [h6]
  have e1 : i * k ≤ n * k := Nat.mul_le_mul_right k hi
  have e2 : n * k ≤ cap * k := Nat.mul_le_mul_right k h4
  have e3 : (n - i) * k = n * k - i * k := Nat.sub_mul _ _ _
  refine ⟨by rw [List.length_take, h.1]; omega, .inr ⟨g, cap, _, rfl, h2, setRow_heap _ _ _ _ _ _ (by rw [hW]; exact h3), by omega, h5, ?_, ?_⟩⟩
  · rw [List.size_toArray, List.length_append, List.length_append, List.length_take, List.length_drop, hcl]; omega
  · rw [List.toList_toArray, List.append_assoc, List.take_append_of_le_length (by rw [List.length_take, hcl]; omega), List.take_take, Nat.min_self, ← h7, List.take_take]
    congr 1; omega
theorem step_append_runM {P : Program} {ops : Array Oper} {o : Oper} {a : Act} {w : World} {K : Act → World → Prop} {Q : Exit → Act → World → Prop} {E : Prop}
    (hg : o.guard = none) (d x : Operand) (dT sT : TypeId) (hop : o.op = Op.call { callee := Callee.builtin Builtin.append, args := #[d, x], argTypes := #[dT, sT] })
    (v u : Value) (hd : a.eval d = v) (hx : a.eval x = u) {v' : Value} {w' : World} (hr : (Builtin.append_ #[dT, sT] o.type #[v, u]).run P w = .ok v' w') (hK : K (a.put o.dst v') w') :
    if Region.wanted o (yielded ops a.tmps) = true then Oper.wp P o a w K Q else E := by
  have hw : Region.wanted o (yielded ops a.tmps) = true := by simp [Region.wanted, hg]
  rw [if_pos hw]
  exact Lib.wp_append_run w d x dT sT hop v u hd hx v' w' hr hK
end Go.Proofs.Ytpcmihgfcaelfaa
namespace Go.Proofs.Ytpcmihgfcaelfaa
open Go.RowKit

theorem run_append_src {P : Program} (w : World) (base : Nat) (t ty e : TypeId) (i : TypeInfo) (z : Value) (size bytes : Nat) (ht : P.underlying t = some (.slice e)) (hi : P.info? e = some i) (hz : i.zero = some z)
    (hsize : i.size = size) (hby : i.bytes = bytes) (hzs : z.cells.size = size) (hsz : 0 < size) (v : Value) (n : Nat) (xs : List Value) (hown : w.ownsRow base e size v n xs)
    (p : Option Addr) (m c : Nat) (news : List Value) (hsrc : SrcAt w p m size news) (hc : p = none → c = 0) (h63 : n + m ≤ maxLen) (hbytes : (n + m) * bytes ≤ 140737488355328) (hbase : base ≤ w.heap.size) :
    ∃ v' w', (Builtin.append_ #[t, t] ty #[v, .slice p m c]).run P w = .ok v' w' ∧ w'.ownsRow base e size v' (n + m) (xs ++ news) ∧ w.grownBy w' v.ownBlock := by
  cases p with
  | none =>
    obtain rfl := hsrc.2.1 rfl
    obtain rfl := hc rfl
    obtain rfl : news = [] := List.eq_nil_of_length_eq_zero (by have := hsrc.1; simpa using this)
    exact ⟨v, w, run_append_owned_none (P := P) (w := w) base t ty e i size ht hi v n xs hown, by simpa using hown, grown_refl _ _⟩
  | some a =>
    obtain ⟨v', w', h1, h2, h3, _⟩ := run_append_own_at (P := P) w base t ty e i z size bytes ht hi hz hsize hby hzs hsz v n xs hown a m c news hsrc.1 (hsrc.2.2.2 a rfl) hsrc.2.2.1 h63 hbytes hbase
    exact ⟨v', w', h1, h2, h3⟩
end Go.Proofs.Ytpcmihgfcaelfaa
namespace Go.Proofs.Ytpcmihgfcaelfaa
open Go.RowKit

abbrev PairD := Int × Int
def pairCs (p : PairD) : List Value := [.int .i64 p.1, .int .i64 p.2]
def pairRows (l : List PairD) : List (List Value) := l.map pairCs
theorem pairRows_snoc (l : List PairD) (p : PairD) : (pairRows (l ++ [p])).flatten = (pairRows l).flatten ++ [.int .i64 p.1, .int .i64 p.2] := by
  unfold pairRows; rw [List.map_append, List.flatten_append]; rfl
theorem pairRows_cat (a b : List PairD) : (pairRows (a ++ b)).flatten = (pairRows a).flatten ++ (pairRows b).flatten := by unfold pairRows; rw [List.map_append, List.flatten_append]
theorem pairRows_one (l : List PairD) : ∀ u ∈ (pairRows l).flatten, u.oneCell' = true := by
  intro u hu
  unfold pairRows at hu
  rw [List.mem_flatten] at hu
  obtain ⟨r, hr, hu⟩ := hu
  rw [List.mem_map] at hr
  obtain ⟨p, _, rfl⟩ := hr
  simp only [pairCs, List.mem_cons, List.not_mem_nil, or_false] at hu
  rcases hu with rfl | rfl <;> rfl
mutual
def pairsN : NodeD → List PairD
  | .mk ks vs kids => (if kids.length = 0 then ks.zip vs else []) ++ pairsL kids
def pairsL : List NodeD → List PairD
  | [] => []
  | t :: ts => pairsN t ++ pairsL ts
end
theorem pairsL_flat : ∀ l : List NodeD, pairsL l = (l.map pairsN).flatten
  | [] => by simp only [pairsL, List.map_nil, List.flatten_nil]
  | t :: ts => by simp only [pairsL, List.map_cons, List.flatten_cons, pairsL_flat ts]
theorem pairsL_snoc {l : List NodeD} {k : Nat} {s : NodeD} (h : l[k]? = some s) : pairsL (l.take (k + 1)) = pairsL (l.take k) ++ pairsN s := by
  obtain ⟨hk, rfl⟩ := List.getElem?_eq_some_iff.1 h
  rw [List.take_succ_eq_append_getElem hk, pairsL_flat, pairsL_flat, List.map_append, List.flatten_append]; simp
theorem zip_snoc {a b : List Int} {k : Nat} {x y : Int} (ha : a[k]? = some x) (hb : b[k]? = some y) : (a.zip b).take (k + 1) = (a.zip b).take k ++ [(x, y)] := by
  have hz : (a.zip b)[k]? = some (x, y) := by
    rw [List.getElem?_zip_eq_some]; exact ⟨ha, hb⟩
  obtain ⟨hk, e⟩ := List.getElem?_eq_some_iff.1 hz
  rw [List.take_succ_eq_append_getElem hk, e]
end Go.Proofs.Ytpcmihgfcaelfaa
