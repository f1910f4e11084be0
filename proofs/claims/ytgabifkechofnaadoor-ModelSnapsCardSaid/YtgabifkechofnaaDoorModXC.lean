/- The model's laws on plain data: errors, reads, snapshots, sizes. No program in sight. -/
import Derived.Test.YtgabifkechofnaaDoorModXB
namespace Go.Proofs.YtgabifkechofnaaDoor
open Go.RowKit

theorem no_act {a b : Int} {P : Prop} (h : a = b) (hn : a ≠ b) : P := absurd h hn
theorem done4 {m : List VolD} (hm : MayP m) {vo de bl nn : Int} {tx : ByteArray} (hf : faultL m ⟨4, vo, de, bl, nn, tx⟩ = 0) :
    ∃ d, getV m vo = some d ∧ tx.size = 256 ∧ (0 ≤ bl ∧ bl < d.size) ∧ (doL m ⟨4, vo, de, bl, nn, tx⟩).1 = putG VolD.id m ⟨d.id, d.size, putG BlkD.pos d.blocks ⟨bl, tx⟩⟩ := by
  have hd := (doL_done hm hf).1
  generalize (doL m ⟨4, vo, de, bl, nn, tx⟩).1 = N at hd ⊢
  cases hd with
  | wrote h d hg ht hb => exact ⟨d, hg, ht, hb, rfl⟩
  | made h => exact no_act h (by simp)
  | gone h => exact no_act h (by simp)
  | sized h => exact no_act h (by simp)
  | cut h => exact no_act h (by simp)
  | snap h => exact no_act h (by simp)
  | asked h => exact absurd h (by simp)
theorem done5 {m : List VolD} (hm : MayP m) {vo de bl nn : Int} {tx : ByteArray} (hf : faultL m ⟨5, vo, de, bl, nn, tx⟩ = 0) :
    ∃ d, getV m vo = some d ∧ (0 ≤ bl ∧ 0 ≤ nn ∧ bl + nn ≤ d.size) ∧ (doL m ⟨5, vo, de, bl, nn, tx⟩).1 = putG VolD.id m ⟨d.id, d.size, cutL d.blocks bl (bl + nn)⟩ := by
  have hd := (doL_done hm hf).1
  generalize (doL m ⟨5, vo, de, bl, nn, tx⟩).1 = N at hd ⊢
  cases hd with
  | cut h d hg hb => exact ⟨d, hg, hb, rfl⟩
  | made h => exact no_act h (by simp)
  | gone h => exact no_act h (by simp)
  | sized h => exact no_act h (by simp)
  | wrote h => exact no_act h (by simp)
  | snap h => exact no_act h (by simp)
  | asked h => exact absurd h (by simp)
theorem done2 {m : List VolD} (hm : MayP m) {vo de bl nn : Int} {tx : ByteArray} (hf : faultL m ⟨2, vo, de, bl, nn, tx⟩ = 0) :
    ∃ d, getV m vo = some d ∧ (0 ≤ nn ∧ nn ≤ 100000) ∧ (doL m ⟨2, vo, de, bl, nn, tx⟩).1 = putG VolD.id m ⟨d.id, nn, if nn < d.size then cutL d.blocks nn d.size else d.blocks⟩ := by
  have hd := (doL_done hm hf).1
  generalize (doL m ⟨2, vo, de, bl, nn, tx⟩).1 = N at hd ⊢
  cases hd with
  | sized h d hg hb => exact ⟨d, hg, hb, rfl⟩
  | made h => exact no_act h (by simp)
  | gone h => exact no_act h (by simp)
  | cut h => exact no_act h (by simp)
  | wrote h => exact no_act h (by simp)
  | snap h => exact no_act h (by simp)
  | asked h => exact absurd h (by simp)
theorem done6 {m : List VolD} (hm : MayP m) {vo de bl nn : Int} {tx : ByteArray} (hf : faultL m ⟨6, vo, de, bl, nn, tx⟩ = 0) :
    ∃ d, getV m vo = some d ∧ getV m de = none ∧ (doL m ⟨6, vo, de, bl, nn, tx⟩).1 = putG VolD.id m ⟨de, d.size, d.blocks⟩ := by
  have hd := (doL_done hm hf).1
  generalize (doL m ⟨6, vo, de, bl, nn, tx⟩).1 = N at hd ⊢
  cases hd with
  | snap h d hg ht hn hl => exact ⟨d, hg, hn, rfl⟩
  | made h => exact no_act h (by simp)
  | gone h => exact no_act h (by simp)
  | cut h => exact no_act h (by simp)
  | wrote h => exact no_act h (by simp)
  | sized h => exact no_act h (by simp)
  | asked h => exact absurd h (by simp)

/-- with an error, and by what only asks, nothing is changed -/
theorem errors_law {m : List VolD} (hm : MayP m) (x : OpD) :
    ((doL m x).2.code ≠ 0 → (doL m x).2.text = ⟨#[]⟩ ∧ (doL m x).2.n = 0 ∧ (doL m x).1 = m) ∧ mayL (doL m x).1 = true ∧ (x.act = 3 ∨ x.act = 7 ∨ x.act = 8 ∨ x.act = 9 → (doL m x).1 = m) := by
  refine ⟨fun h => ?_, (may_iff _).2 (doL_may hm x), fun h => ?_⟩
  · rw [doL_code hm] at h
    rw [doL_fault hm h]; exact ⟨rfl, rfl, rfl⟩
  · by_cases hf : faultL m x = 0
    · have hd := (doL_done hm hf).1
      generalize (doL m x).1 = N at hd ⊢
      cases hd with
      | asked => rfl
      | made h2 => rw [h2] at h; exact absurd h (by decide)
      | gone h2 => rw [h2] at h; exact absurd h (by decide)
      | sized h2 => rw [h2] at h; exact absurd h (by decide)
      | wrote h2 => rw [h2] at h; exact absurd h (by decide)
      | cut h2 => rw [h2] at h; exact absurd h (by decide)
      | snap h2 => rw [h2] at h; exact absurd h (by decide)
    · rw [doL_fault hm hf]

theorem read_of {d : VolD} {blk : Int} : readC (some d) blk = if blk < 0 ∨ d.size ≤ blk then (191, ⟨#[]⟩) else (0, textL d.blocks blk) := rfl
abbrev rd (m : List VolD) (vo blk : Int) : Int × ByteArray := readC (getV m vo) blk

theorem getV_put (m : List VolD) (d : VolD) (k : Int) : getV (putG VolD.id m d) k = if k = d.id then some d else getV m k := look_put VolD.id m d k
theorem disc1 {n : List VolD} {vo bl : Int} {d : VolD} (hg : getV n vo = some d) (h : 0 ≤ bl ∧ bl < d.size) : faultL n ⟨5, vo, 0, bl, 1, ⟨#[]⟩⟩ = 0 := by
  rw [faultL_of (x := ⟨5, vo, 0, bl, 1, ⟨#[]⟩⟩) (show (1 : Int) ≤ 5 ∧ (5 : Int) ≤ 5 by decide)]
  unfold faultOfL
  simp only
  rw [size_of hg, if_neg (fun h => absurd h.1 (by simp)), if_neg (fun h => absurd h.1 (by simp)), if_neg (by omega), if_neg (fun h => absurd h.1 (by simp)), if_neg (fun hh => by have := hh.2; omega)]

theorem reads_law {m : List VolD} (hm : MayP m) (vo de bl nn vy by_ : Int) (tx : ByteArray) (hf : faultL m ⟨4, vo, de, bl, nn, tx⟩ = 0) :
    let n := (doL m ⟨4, vo, de, bl, nn, tx⟩).1
    let o := (doL n ⟨5, vo, 0, bl, 1, ⟨#[]⟩⟩).1
    (rd m vy by_).1 = (rd n vy by_).1 ∧ (vo = vy ∧ bl = by_ → (rd n vy by_).2 = tx) ∧ (¬ (vo = vy ∧ bl = by_) → (rd n vy by_).2 = (rd m vy by_).2) ∧
    (doL n ⟨5, vo, 0, bl, 1, ⟨#[]⟩⟩).2.code = 0 ∧ (rd o vy by_).1 = (rd n vy by_).1 ∧ (vo = vy ∧ bl = by_ → (rd o vy by_).2 = blankB) ∧ (¬ (vo = vy ∧ bl = by_) → (rd o vy by_).2 = (rd n vy by_).2) := by
  intro n o
  obtain ⟨d, hg, ht, hb, hn⟩ := done4 hm hf
  have hid : d.id = vo := (look_mem hg).2
  have hmn : MayP n := doL_may hm _
  have gn : ∀ k, getV n k = if k = vo then some ⟨d.id, d.size, putG BlkD.pos d.blocks ⟨bl, tx⟩⟩ else getV m k := fun k => by
    show getV (doL m _).1 k = _
    rw [hn, getV_put, hid]
  have hgn : getV n vo = some ⟨d.id, d.size, putG BlkD.pos d.blocks ⟨bl, tx⟩⟩ := by rw [gn, if_pos rfl]
  have hf5 := disc1 hgn hb
  obtain ⟨d2, hg2, hb2, ho⟩ := done5 hmn hf5
  rw [hgn] at hg2
  cases hg2
  have go : ∀ k, getV o k = if k = vo then some ⟨d.id, d.size, cutL (putG BlkD.pos d.blocks ⟨bl, tx⟩) bl (bl + 1)⟩ else getV n k := fun k => by
    show getV (doL n _).1 k = _
    rw [ho, getV_put]
    show (if k = d.id then _ else _) = _
    rw [hid]
  refine ⟨?_, ?_, ?_, (doL_done hmn hf5).2, ?_, ?_, ?_⟩
  · unfold rd
    rw [gn]
    split
    · rename_i e; subst e; rw [hg, read_of, read_of]; simp only; split <;> rfl
    · rfl
  · rintro ⟨rfl, rfl⟩
    unfold rd
    rw [hgn, read_of, if_neg (by show ¬ (bl < 0 ∨ d.size ≤ bl); omega)]
    show textL (putG BlkD.pos d.blocks ⟨bl, tx⟩) bl = tx
    rw [text_put, if_pos rfl]
  · intro hne
    unfold rd
    rw [gn]
    split
    · rename_i e
      subst e
      rw [hg, read_of, read_of]; simp only
      split
      · rfl
      · show textL (putG BlkD.pos d.blocks ⟨bl, tx⟩) by_ = _
        rw [text_put, if_neg (fun e => hne ⟨rfl, e.symm⟩)]
    · rfl
  · unfold rd
    rw [go]
    split
    · rename_i e; subst e; rw [hgn, read_of, read_of]; simp only; split <;> rfl
    · rfl
  · rintro ⟨rfl, rfl⟩
    unfold rd
    rw [go, if_pos rfl, read_of, if_neg (by show ¬ (bl < 0 ∨ d.size ≤ bl); omega)]
    show textL (cutL _ bl (bl + 1)) bl = _
    rw [text_cut, if_pos (by omega)]
  · intro hne
    unfold rd
    rw [go]
    split
    · rename_i e
      subst e
      rw [hgn, read_of, read_of]; simp only
      split
      · rfl
      · show textL (cutL _ bl (bl + 1)) by_ = textL _ by_
        rw [text_cut, if_neg (fun e => hne ⟨rfl, by omega⟩)]
    · rfl

/-- what is not asked of a volume leaves it as it is -/
theorem doL_keeps {m : List VolD} (hm : MayP m) (y : OpD) (k : Int) (hk : k ≠ y.vol) (hs : ¬ (y.act = 6 ∧ y.dest = k)) : getV (doL m y).1 k = getV m k := by
  by_cases hf : faultL m y = 0
  · have hd := (doL_done hm hf).1
    generalize (doL m y).1 = N at hd ⊢
    cases hd with
    | asked => rfl
    | made h hv hz hg hl => rw [getV_put, if_neg hk]
    | gone h d hg => exact look_filter _ _ _ _ (fun e _ he => by simp; omega)
    | sized h d hg hz => rw [getV_put, if_neg (by show k ≠ d.id; rw [(look_mem hg).2]; exact hk)]
    | wrote h d hg ht hb => rw [getV_put, if_neg (by show k ≠ d.id; rw [(look_mem hg).2]; exact hk)]
    | cut h d hg hb => rw [getV_put, if_neg (by show k ≠ d.id; rw [(look_mem hg).2]; exact hk)]
    | snap h d hg ht hn hl => rw [getV_put, if_neg (fun e => hs ⟨h, e.symm⟩)]
  · rw [doL_fault hm hf]
theorem snaps_law {m : List VolD} (hm : MayP m) (vo to_ : Int) (a b : Int) (tx : ByteArray) (hf : faultL m ⟨6, vo, to_, a, b, tx⟩ = 0) :
    let n := (doL m ⟨6, vo, to_, a, b, tx⟩).1
    getV n to_ = (getV m vo).map (fun d => ⟨to_, d.size, d.blocks⟩) ∧ getV n vo = getV m vo ∧ vo ≠ to_ ∧
    (∀ blk, rd n to_ blk = rd m vo blk) ∧
    (∀ (ac de bl nn : Int) (ty : ByteArray), ¬ (ac = 6 ∧ de = to_) → getV (doL n ⟨ac, vo, de, bl, nn, ty⟩).1 to_ = getV n to_) ∧
    (∀ (ac de bl nn : Int) (ty : ByteArray), ac ≠ 0 → ¬ (ac = 6 ∧ de = to_) → getV (doL n ⟨ac, to_, de, bl, nn, ty⟩).1 vo = getV m vo) := by
  intro n
  obtain ⟨d, hg, hnone, hn⟩ := done6 hm hf
  have hmn : MayP n := doL_may hm _
  have hne : vo ≠ to_ := fun e => by rw [e, hnone] at hg; cases hg
  have gn : ∀ k, getV n k = if k = to_ then some ⟨to_, d.size, d.blocks⟩ else getV m k := fun k => by
    show getV (doL m _).1 k = _
    rw [hn, getV_put]
  have g1 : getV n to_ = some ⟨to_, d.size, d.blocks⟩ := by rw [gn, if_pos rfl]
  have g2 : getV n vo = getV m vo := by rw [gn, if_neg hne]
  refine ⟨by rw [g1, hg]; rfl, g2, hne, fun blk => ?_, fun ac de bl nn ty h => ?_, fun ac de bl nn ty h0 h => ?_⟩
  · unfold rd; rw [g1, hg]; rfl
  · exact doL_keeps hmn ⟨ac, vo, de, bl, nn, ty⟩ to_ (fun e => hne e.symm) h
  · rw [← g2]
    by_cases h6 : ac = 6 ∧ de = vo
    · obtain ⟨rfl, rfl⟩ := h6
      by_cases hf2 : faultL n ⟨6, to_, de, bl, nn, ty⟩ = 0
      · obtain ⟨d2, _, hno, _⟩ := done6 hmn hf2
        rw [g2, hg] at hno; cases hno
      · rw [doL_fault hmn hf2]
    · exact doL_keeps hmn ⟨ac, to_, de, bl, nn, ty⟩ vo hne h6

theorem sizes_law {m : List VolD} (hm : MayP m) (vo n at_ : Int) (d : VolD) (hg : getV m vo = some d) (hn : 0 ≤ n ∧ n ≤ 100000) :
    let a := (doL m ⟨2, vo, 0, 0, n, ⟨#[]⟩⟩).1
    let b := (doL a ⟨2, vo, 0, 0, d.size, ⟨#[]⟩⟩).1
    (rd m vo at_).1 = (rd b vo at_).1 ∧ (at_ < n → rd m vo at_ = rd b vo at_) ∧ (¬ at_ < n → (rd m vo at_).1 ≠ 0 ∨ (rd b vo at_).2 = blankB) := by
  intro a b
  have hv := hm.vol d (look_mem hg).1
  have hid : d.id = vo := (look_mem hg).2
  have f2 : ∀ {m : List VolD} {d : VolD} {s : Int}, MayP m → getV m vo = some d → 0 ≤ s ∧ s ≤ 100000 → faultL m ⟨2, vo, 0, 0, s, ⟨#[]⟩⟩ = 0 := by
    intro m d s hm hg hs
    rw [faultL_of (x := ⟨2, vo, 0, 0, s, ⟨#[]⟩⟩) (show (1 : Int) ≤ 2 ∧ (2 : Int) ≤ 5 by decide)]
    unfold faultOfL
    simp only
    have := (hm.vol d (look_mem hg).1).size.1
    rw [size_of hg, if_neg (fun h => by have := h.2; omega), if_neg (fun h => absurd h.1 (by simp)), if_neg (by omega), if_neg (fun h => absurd h (by simp)), if_neg (fun h => absurd h.1 (by simp))]
  have hma : MayP a := doL_may hm _
  obtain ⟨d1, hg1, _, ha⟩ := done2 hm (f2 hm hg hn)
  rw [hg] at hg1; cases hg1
  have ga : getV a vo = some ⟨d.id, n, if n < d.size then cutL d.blocks n d.size else d.blocks⟩ := by
    show getV (doL m _).1 vo = _
    rw [ha, getV_put]; exact if_pos hid.symm
  obtain ⟨d2, hg2, _, hb⟩ := done2 hma (f2 hma ga hv.size)
  rw [ga] at hg2; cases hg2
  have gb : getV b vo = some ⟨d.id, d.size, if d.size < n then cutL (if n < d.size then cutL d.blocks n d.size else d.blocks) d.size n else (if n < d.size then cutL d.blocks n d.size else d.blocks)⟩ := by
    show getV (doL a _).1 vo = _
    rw [hb, getV_put]; exact if_pos hid.symm
  have tb : ∀ p, p < d.size → textL (if d.size < n then cutL (if n < d.size then cutL d.blocks n d.size else d.blocks) d.size n else (if n < d.size then cutL d.blocks n d.size else d.blocks)) p = if n ≤ p then blankB else textL d.blocks p := by
    intro p hp
    by_cases h1 : d.size < n
    · rw [if_pos h1, if_neg (by omega), text_cut, if_neg (by omega), if_neg (by omega)]
    · rw [if_neg h1]
      by_cases h2 : n < d.size
      · rw [if_pos h2, text_cut]
        by_cases h3 : n ≤ p
        · rw [if_pos ⟨h3, hp⟩, if_pos h3]
        · rw [if_neg (fun h => h3 h.1), if_neg h3]
      · rw [if_neg h2, if_neg (by omega)]
  unfold rd
  rw [hg, gb, read_of, read_of]
  simp only
  refine ⟨?_, fun h => ?_, fun h => ?_⟩
  · split <;> rfl
  · split
    · rfl
    · rw [tb at_ (by omega), if_neg (by omega)]
  · split
    · exact .inl (by simp)
    · right; show textL _ at_ = _; rw [tb at_ (by omega), if_pos (by omega)]
end Go.Proofs.YtgabifkechofnaaDoor
