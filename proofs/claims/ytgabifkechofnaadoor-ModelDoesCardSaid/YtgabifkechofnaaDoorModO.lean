/- A model that a call owns: its row of volumes, and each volume's row of blocks, all apart. No program in sight. -/
import Derived.Test.YtgabifkechofnaaDoorModQ
import Derived.Test.YtgabifkechofnaaDoorVec
namespace Go.Proofs.YtgabifkechofnaaDoor
open Go.RowKit

def blkCs (b : BlkD) : List Value := [.int .i64 b.pos, .string b.text]
def blkRows (l : List BlkD) : List (List Value) := l.map blkCs
def volCs (d : VolD) (bv : Value) : List Value := [.int .i64 d.id, .int .i64 d.size, bv]
def volRows (m : List VolD) (bvs : List Value) : List (List Value) := List.zipWith volCs m bvs
theorem blkRows_all (l : List BlkD) : AllLen 2 (blkRows l) := by
  intro x hx; obtain ⟨b, _, rfl⟩ := List.mem_map.1 hx; rfl
theorem volRows_all (m : List VolD) (bvs : List Value) : AllLen 3 (volRows m bvs) := by
  intro x hx
  unfold volRows at hx
  obtain ⟨i, hi, rfl⟩ := List.mem_iff_getElem.1 hx
  rw [List.getElem_zipWith]; rfl
theorem volRows_at {m : List VolD} {bvs : List Value} {i : Nat} {d : VolD} {bv : Value} (hd : m[i]? = some d) (hb : bvs[i]? = some bv) : (volRows m bvs)[i]? = some (volCs d bv) := by
  unfold volRows; rw [List.getElem?_zipWith, hd, hb]
theorem blkRows_at {l : List BlkD} {i : Nat} {b : BlkD} (h : l[i]? = some b) : (blkRows l)[i]? = some (blkCs b) := by unfold blkRows; rw [List.getElem?_map, h]; rfl
theorem volRows_len {m : List VolD} {bvs : List Value} (h : bvs.length = m.length) : (volRows m bvs).length = m.length := by unfold volRows; rw [List.length_zipWith, h, Nat.min_self]
theorem blkRows_one (l : List BlkD) : ∀ u ∈ (blkRows l).flatten, u.oneCell' = true := by
  intro u hu
  obtain ⟨x, hx, hu⟩ := List.mem_flatten.1 hu
  obtain ⟨b, _, rfl⟩ := List.mem_map.1 hx
  simp only [blkCs, List.mem_cons, List.not_mem_nil, or_false] at hu
  rcases hu with rfl | rfl <;> rfl

/-- of the blocks' values: which the cells hold -/
def bvsAt (w : World) (p : Option Addr) (n : Nat) : List Value := (List.range n).map fun i => match p with | some a => (w.cell? (a.add (i * 3 + 2))).getD undef | none => undef
theorem bvsAt_len (w : World) (p : Option Addr) (n : Nat) : (bvsAt w p n).length = n := by simp [bvsAt]
theorem VolsIn.src {w : World} {p : Option Addr} {m : List VolD} (h : VolsIn w p m) : SrcAt w p m.length 3 (volRows m (bvsAt w p m.length)).flatten := by
  have hbv : ∀ (i : Nat) (d : VolD), m[i]? = some d → ∃ bp c, (bvsAt w p m.length)[i]? = some (Value.slice bp d.blocks.length c) := by
    intro i d hd
    obtain ⟨g, o, bp, c, rfl, _, _, h2, _⟩ := h i d hd
    have hi := (List.getElem?_eq_some_iff.1 hd).1
    refine ⟨bp, c, ?_⟩
    unfold bvsAt
    rw [List.getElem?_map, List.getElem?_range hi]
    simp only [Option.map_some, Option.some.injEq]
    rw [ow_at', ← Nat.add_assoc, h2]; rfl
  refine ⟨by rw [flat_length (volRows_all _ _), volRows_len (bvsAt_len w p _)], ?_, ?_, ?_⟩
  · intro hp
    cases hm : m with
    | nil => rfl
    | cons d r =>
      obtain ⟨g, o, bp, c, hp2, _⟩ := h 0 d (by rw [hm]; rfl)
      rw [hp] at hp2; cases hp2
  · intro u hu
    obtain ⟨x, hx, hu⟩ := List.mem_flatten.1 hu
    obtain ⟨i, hi⟩ := List.mem_iff_getElem?.1 hx
    have hlt : i < m.length := by
      have := (List.getElem?_eq_some_iff.1 hi).1
      rwa [volRows_len (bvsAt_len w p _)] at this
    have hd := List.getElem?_eq_getElem hlt
    obtain ⟨bp, c, hb⟩ := hbv i _ hd
    rw [volRows_at hd hb] at hi
    cases hi
    simp only [volCs, List.mem_cons, List.not_mem_nil, or_false] at hu
    rcases hu with rfl | rfl | rfl <;> rfl
  · intro a ha j u hu
    subst ha
    have hj := (List.getElem?_eq_some_iff.1 hu).1
    rw [flat_length (volRows_all _ _), volRows_len (bvsAt_len w _ _)] at hj
    have hlt : j / 3 < m.length := by omega
    have hd := List.getElem?_eq_getElem hlt
    obtain ⟨g, o, bp, c, hp, h0, h1, h2, _⟩ := h _ _ hd
    cases hp
    obtain ⟨bp', c', hb⟩ := hbv _ _ hd
    have hjj : j = j / 3 * 3 + j % 3 := by omega
    rw [hjj, flat_get (volRows_all _ _) (volRows_at hd hb) (Nat.mod_lt _ (by decide))] at hu
    have hb2 := hb
    unfold bvsAt at hb2
    rw [List.getElem?_map, List.getElem?_range hlt] at hb2
    simp only [Option.map_some, Option.some.injEq] at hb2
    rw [ow_at', ← Nat.add_assoc, h2] at hb2
    rw [ow_at', hjj]
    have hr : j % 3 = 0 ∨ j % 3 = 1 ∨ j % 3 = 2 := by omega
    rcases hr with hr | hr | hr
    · rw [hr] at hu ⊢; simp only [volCs, List.getElem?_cons_zero, Option.some.injEq] at hu; rw [← hu]; exact h0
    · rw [hr] at hu ⊢; simp only [volCs, List.getElem?_cons_succ, List.getElem?_cons_zero, Option.some.injEq] at hu; rw [← hu, ← Nat.add_assoc]; exact h1
    · rw [hr] at hu ⊢; simp only [volCs, List.getElem?_cons_succ, List.getElem?_cons_zero, Option.some.injEq] at hu; rw [← hu, ← Nat.add_assoc, ← hb2]; exact h2
theorem BlksIn.src {w : World} {p : Option Addr} {l : List BlkD} (h : BlksIn w p l) : SrcAt w p l.length 2 (blkRows l).flatten := by
  refine ⟨by rw [flat_length (blkRows_all _)]; simp [blkRows], ?_, blkRows_one l, ?_⟩
  · intro hp
    cases hm : l with
    | nil => rfl
    | cons d r =>
      obtain ⟨g, o, hp2, _⟩ := h 0 d (by rw [hm]; rfl)
      rw [hp] at hp2; cases hp2
  · intro a ha j u hu
    subst ha
    have hj := (List.getElem?_eq_some_iff.1 hu).1
    rw [flat_length (blkRows_all _)] at hj
    have hlt : j / 2 < l.length := by simp only [blkRows, List.length_map] at hj; omega
    have hd := List.getElem?_eq_getElem hlt
    obtain ⟨g, o, hp, h0, h1⟩ := h _ _ hd
    cases hp
    have hjj : j = j / 2 * 2 + j % 2 := by omega
    rw [hjj, flat_get (blkRows_all _) (blkRows_at hd) (Nat.mod_lt _ (by decide))] at hu
    rw [ow_at', hjj]
    have hr : j % 2 = 0 ∨ j % 2 = 1 := by omega
    rcases hr with hr | hr
    · rw [hr] at hu ⊢; simp only [blkCs, List.getElem?_cons_zero, Option.some.injEq] at hu; rw [← hu]; exact h0
    · rw [hr] at hu ⊢; simp only [blkCs, List.getElem?_cons_succ, List.getElem?_cons_zero, Option.some.injEq] at hu; rw [← hu, ← Nat.add_assoc]; exact h1

/-- a row of blocks that is owned reads as its blocks -/
theorem blks_of_own {w : World} {B : Nat} {e : TypeId} {v : Value} {l : List BlkD} (h : w.ownsRow B e 2 v l.length (blkRows l).flatten) : ∃ p c, v = .slice p l.length c ∧ l.length ≤ c ∧ c ≤ maxLen ∧ BlksIn w p l := by
  obtain ⟨p, c, hv, h1, h2, hs⟩ := ow_src h (blkRows_one l)
  refine ⟨p, c, hv, h1, h2, fun i d hd => ?_⟩
  have hi := (List.getElem?_eq_some_iff.1 hd).1
  subst hv
  rcases ow_slice h with ⟨_, hn, _⟩ | ⟨g, cap, hv⟩
  · omega
  · injection hv with a b
    subst a
    refine ⟨g, 0, rfl, ?_, ?_⟩
    · have := hs.2.2.2 _ rfl (i * 2 + 0) _ (by rw [flat_get (blkRows_all _) (blkRows_at hd) (by decide)]; rfl)
      rwa [ow_at'] at this
    · have := hs.2.2.2 _ rfl (i * 2 + 1) _ (by rw [flat_get (blkRows_all _) (blkRows_at hd) (by decide)]; rfl)
      rwa [ow_at', ← Nat.add_assoc] at this

/-- of the first k volumes the blocks are owned, each apart -/
structure OwnK (B G : Nat) (tv tb : TypeId) (m : List VolD) (v : Value) (k : Nat) (bvs : List Value) (w : World) : Prop where
  len : bvs.length = m.length
  row : w.ownsRow B tv 3 v m.length (volRows m bvs).flatten
  lo : ∀ g, v.ownBlock = some g → g < G
  hi : G ≤ w.heap.size
  blk : ∀ i d bv, i < k → m[i]? = some d → bvs[i]? = some bv → w.ownsRow G tb 2 bv d.blocks.length (blkRows d.blocks).flatten
  far : ∀ i j bi bj, i < k → j < k → i ≠ j → bvs[i]? = some bi → bvs[j]? = some bj → bi.ownBlock = none ∨ bi.ownBlock ≠ bj.ownBlock
/-- a model that is owned -/
def MOwn (B G : Nat) (tv tb : TypeId) (m : List VolD) (v : Value) (w : World) : Prop := ∃ bvs, OwnK B G tv tb m v m.length bvs w

theorem OwnK.below {B G : Nat} {tv tb : TypeId} {m : List VolD} {v : Value} {k : Nat} {bvs : List Value} {w w' : World} (h : OwnK B G tv tb m v k bvs w) (hb : Below w.heap.size w w') : OwnK B G tv tb m v k bvs w' :=
  ⟨h.len, h.row.kept (row := none) (grown_of_below hb _) (by cases hv : v.ownBlock <;> simp), h.lo, Nat.le_trans h.hi hb.size,
    fun i d bv hi hd hbv => (h.blk i d bv hi hd hbv).kept (row := none) (grown_of_below hb _) (by cases hv : bv.ownBlock <;> simp), h.far⟩
/-- the k-th volume's blocks are copied, and the copy laid into the row -/
theorem OwnK.step {B G : Nat} {tv tb : TypeId} {m : List VolD} {g cap : Nat} {k : Nat} {bvs : List Value} {w w1 : World} {d : VolD} {u : Value}
    (h : OwnK B G tv tb m (.slice (some ⟨g, 0, none⟩) m.length cap) k bvs w) (hd : m[k]? = some d) (hb : Below w.heap.size w w1) (hu : w1.ownsRow w.heap.size tb 2 u d.blocks.length (blkRows d.blocks).flatten) :
    OwnK B G tv tb m (.slice (some ⟨g, 0, none⟩) m.length cap) (k + 1) (bvs.set k u) (w1.setCell ⟨g, k * 3 + 2, none⟩ u) := by
  have h1 := h.below hb
  have hk := (List.getElem?_eq_some_iff.1 hd).1
  have hkb : k < bvs.length := by rw [h.len]; exact hk
  have hgG : g < G := h.lo g rfl
  have hrow : (volRows m (bvs.set k u)) = (volRows m bvs).set k (volCs d u) := by
    apply List.ext_getElem?
    intro i
    by_cases e : i = k
    · subst e
      rw [volRows_at hd (List.getElem?_set_self hkb), List.getElem?_set_self (by rw [volRows_len h.len]; exact hk)]
    · rw [List.getElem?_set_ne (by omega)]
      unfold volRows
      rw [List.getElem?_zipWith, List.getElem?_zipWith, List.getElem?_set_ne (by omega)]
  obtain ⟨bv0, hbv0⟩ : ∃ b, bvs[k]? = some b := ⟨_, List.getElem?_eq_getElem hkb⟩
  have hset := flat_set (k := 3) (L := volRows m bvs) (i := k) (r := 2) u (volRows_all _ _) (volRows_at hd hbv0) (by decide)
  refine ⟨by rw [List.length_set]; exact h.len, ?_, h.lo, by simpa using h1.hi, ?_, ?_⟩
  · rw [hrow]
    have := ow_set h1.row (k * 3 + 2) u (by rw [flat_length (volRows_all _ _), volRows_len h.len]; omega)
    rw [hset] at this
    exact this
  · intro i d' bv hi hd' hbv
    by_cases e : i = k
    · subst e
      rw [List.getElem?_set_self hkb] at hbv
      rw [hd] at hd'; cases hd'; cases hbv
      exact ownsRow_setCell_below (ow_mono h.hi hu) (by show g < G; omega) _
    · rw [List.getElem?_set_ne (by omega)] at hbv
      exact ownsRow_setCell_below (h1.blk i d' bv (by omega) hd' hbv) (by show g < G; omega) _
  · intro i j bi bj hi hj hij hbi hbj
    have old : ∀ i b, i < k → bvs[i]? = some b → ∀ q, b.ownBlock = some q → q < w.heap.size := by
      intro i b hik hb' q hq
      have hil : i < m.length := by omega
      have := (h.blk i _ b hik (List.getElem?_eq_getElem hil) hb').lt q hq
      omega
    have new : ∀ q, u.ownBlock = some q → w.heap.size ≤ q := fun q hq => (hu.lt q hq).1
    by_cases ei : i = k
    · subst ei
      rw [List.getElem?_set_self hkb] at hbi; cases hbi
      rw [List.getElem?_set_ne (by omega)] at hbj
      cases hq : u.ownBlock with
      | none => exact .inl rfl
      | some q =>
        right; intro he
        have h2 := old j bj (by omega) hbj q he.symm
        have h3 := new q hq
        omega
    · rw [List.getElem?_set_ne (by omega)] at hbi
      by_cases ej : j = k
      · subst ej
        rw [List.getElem?_set_self hkb] at hbj; cases hbj
        cases hq : bi.ownBlock with
        | none => exact .inl rfl
        | some q =>
          right; intro he
          have h2 := old i bi (by omega) hbi q hq
          have h3 := new q he.symm
          omega
      · rw [List.getElem?_set_ne (by omega)] at hbj
        exact h.far i j bi bj (by omega) (by omega) hij hbi hbj

/-- volumes and blocks in rows that lie from B on -/
def MFin (B : Nat) (tv tb : TypeId) (w : World) (v : Value) (m : List VolD) : Prop :=
  ∃ bvs : List Value, bvs.length = m.length ∧ w.ownsRow B tv 3 v m.length (volRows m bvs).flatten ∧ ∀ (i : Nat) (d : VolD) (bv : Value), m[i]? = some d → bvs[i]? = some bv → w.ownsRow B tb 2 bv d.blocks.length (blkRows d.blocks).flatten
theorem MFin.mono {B B' : Nat} {tv tb : TypeId} {w : World} {v : Value} {m : List VolD} (hB : B' ≤ B) (h : MFin B tv tb w v m) : MFin B' tv tb w v m := by
  obtain ⟨bvs, h1, h2, h3⟩ := h
  exact ⟨bvs, h1, ow_mono hB h2, fun i d bv hd he => ow_mono hB (h3 i d bv hd he)⟩
theorem MFin.setBelow {B : Nat} {tv tb : TypeId} {w : World} {v : Value} {m : List VolD} (h : MFin B tv tb w v m) {a : Addr} (ha : a.block < B) (u : Value) : MFin B tv tb (w.setCell a u) v m := by
  obtain ⟨bvs, h1, h2, h3⟩ := h
  exact ⟨bvs, h1, ownsRow_setCell_below h2 ha u, fun i d bv hd he => ownsRow_setCell_below (h3 i d bv hd he) ha u⟩
theorem MFin.below {B : Nat} {tv tb : TypeId} {w w' : World} {v : Value} {m : List VolD} (h : MFin B tv tb w v m) (hb : Below w.heap.size w w') : MFin B tv tb w' v m := by
  obtain ⟨bvs, h1, h2, h3⟩ := h
  exact ⟨bvs, h1, h2.kept (row := none) (grown_of_below hb _) (by cases hv : v.ownBlock <;> simp), fun i d bv hd he => (h3 i d bv hd he).kept (row := none) (grown_of_below hb _) (by cases hv : bv.ownBlock <;> simp)⟩
theorem MOwn.fin {B G : Nat} {tv tb : TypeId} {m : List VolD} {v : Value} {w : World} (hG : B ≤ G) (h : MOwn B G tv tb m v w) : MFin B tv tb w v m := by
  obtain ⟨bvs, h⟩ := h
  exact ⟨bvs, h.len, h.row, fun i d bv hd he => ow_mono hG (h.blk i d bv (List.getElem?_eq_some_iff.1 hd).1 hd he)⟩
/-- a model that is owned reads as its volumes -/
theorem MOwn.reads {B G : Nat} {tv tb : TypeId} {m : List VolD} {v : Value} {w : World} (h : MOwn B G tv tb m v w) : ModelAt w v m := by
  obtain ⟨bvs, h⟩ := h
  have hone : ∀ u ∈ (volRows m bvs).flatten, u.oneCell' = true := by
    intro u hu
    obtain ⟨x, hx, hu⟩ := List.mem_flatten.1 hu
    obtain ⟨i, hi⟩ := List.mem_iff_getElem?.1 hx
    have hlt : i < m.length := by
      have := (List.getElem?_eq_some_iff.1 hi).1
      rwa [volRows_len h.len] at this
    have hd := List.getElem?_eq_getElem hlt
    have hb := List.getElem?_eq_getElem (show i < bvs.length by rw [h.len]; exact hlt)
    rw [volRows_at hd hb] at hi
    cases hi
    obtain ⟨p, c, e, _⟩ := blks_of_own (h.blk i _ _ hlt hd hb)
    simp only [volCs, List.mem_cons, List.not_mem_nil, or_false] at hu
    rcases hu with rfl | rfl | rfl
    · rfl
    · rfl
    · rw [e]; rfl
  obtain ⟨p, c, hv, h1, h2, hs⟩ := ow_src h.row hone
  refine ⟨p, c, hv, h1, h2, fun i d hd => ?_⟩
  have hlt := (List.getElem?_eq_some_iff.1 hd).1
  obtain ⟨bv, hb⟩ : ∃ bv, bvs[i]? = some bv := ⟨_, List.getElem?_eq_getElem (show i < bvs.length by rw [h.len]; exact hlt)⟩
  obtain ⟨bp, bc, e, hb1, hb2, hbl⟩ := blks_of_own (h.blk i d _ hlt hd hb)
  subst hv
  rcases ow_slice h.row with ⟨_, hn, _⟩ | ⟨g, cap, hv⟩
  · omega
  · injection hv with a b
    subst a
    have get : ∀ r u, r < 3 → (volCs d bv)[r]? = some u → w.cell? ⟨g, i * 3 + r, none⟩ = some u := by
      intro r u hr hu
      have := hs.2.2.2 _ rfl (i * 3 + r) u (by rw [flat_get (volRows_all _ _) (volRows_at hd hb) hr]; exact hu)
      rwa [ow_at] at this
    refine ⟨g, 0, bp, bc, rfl, ?_, ?_, ?_, hb1, hb2, hbl⟩
    · rw [Nat.zero_add]; exact get 0 _ (by decide) rfl
    · rw [Nat.zero_add]; exact get 1 _ (by decide) rfl
    · rw [Nat.zero_add, ← e]; exact get 2 _ (by decide) rfl
end Go.Proofs.YtgabifkechofnaaDoor
