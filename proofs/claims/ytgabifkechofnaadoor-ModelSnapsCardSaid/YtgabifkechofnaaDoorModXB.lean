/- The model's laws on plain data: what each act leaves; what may be stays so. No program in sight. -/
import Derived.Test.YtgabifkechofnaaDoorModX
namespace Go.Proofs.YtgabifkechofnaaDoor
open Go.RowKit

/-- what is read of a volume -/
def readC (o : Option VolD) (blk : Int) : Int × ByteArray :=
  match o with
  | none => (190, ⟨#[]⟩)
  | some d => if blk < 0 ∨ d.size ≤ blk then (191, ⟨#[]⟩) else (0, textL d.blocks blk)
theorem faultOf_neg {size : Int} {x : OpD} (h : faultOfL size x = 0) : 0 ≤ size := by
  apply Classical.byContradiction; intro hn
  unfold faultOfL at h
  split at h
  · cases h
  · split at h
    · cases h
    · rw [if_pos (by omega)] at h; cases h
theorem size_some {m : List VolD} (_hm : MayP m) {id : Int} (h : 0 ≤ sizeL m id) : ∃ d, getV m id = some d ∧ sizeL m id = d.size := by
  cases hg : getV m id with
  | none => rw [sizeL_look, hg] at h; exact absurd h (by decide)
  | some d => exact ⟨d, rfl, by rw [sizeL_look, hg]⟩
theorem size_of {m : List VolD} {id : Int} {d : VolD} (h : getV m id = some d) : sizeL m id = d.size := by rw [sizeL_look, h]
theorem size_no {m : List VolD} (hm : MayP m) {id : Int} (h : sizeL m id < 0) : getV m id = none := by
  cases hg : getV m id with
  | none => rfl
  | some d => rw [size_of hg] at h; have := (hm.vol d (look_mem hg).1).size.1; omega

theorem doL_bad {m : List VolD} (h : mayL m = false) (x : OpD) : doL m x = ([], ⟨1, ⟨#[]⟩, 0⟩) := by unfold doL; rw [if_pos h]
theorem doL_fault {m : List VolD} (hm : MayP m) {x : OpD} (h : faultL m x ≠ 0) : doL m x = (m, ⟨faultL m x, ⟨#[]⟩, 0⟩) := by
  unfold doL; rw [if_neg (by rw [(may_iff m).2 hm]; simp), if_pos h]
theorem doL_read {m : List VolD} (hm : MayP m) (vo de bl nn : Int) (tx : ByteArray) : doL m ⟨3, vo, de, bl, nn, tx⟩ = (m, ⟨(readC (getV m vo) bl).1, (readC (getV m vo) bl).2, 0⟩) := by
  have hf : faultL m ⟨3, vo, de, bl, nn, tx⟩ = (readC (getV m vo) bl).1 := by
    rw [faultL_of (x := ⟨3, vo, de, bl, nn, tx⟩) (show (1 : Int) ≤ 3 ∧ (3 : Int) ≤ 5 by decide)]
    unfold faultOfL readC
    rw [if_neg (fun h => absurd h.1 (by simp)), if_neg (fun h => absurd h.1 (by simp))]
    simp only
    cases hg : getV m vo with
    | none => rw [sizeL_look, hg]; rfl
    | some d =>
      have hs := (hm.vol d (look_mem hg).1).size.1
      rw [size_of hg, if_neg (by omega)]
      by_cases h : bl < 0 ∨ d.size ≤ bl
      · simp only [if_pos h]; rw [if_pos ⟨by simp, h⟩]
      · simp only [if_neg h]; rw [if_neg (fun hh => h hh.2), if_neg (fun hh => absurd hh.1 (by simp))]
  by_cases h0 : faultL m ⟨3, vo, de, bl, nn, tx⟩ = 0
  · have hx : doL m ⟨3, vo, de, bl, nn, tx⟩ = (m, ⟨0, textL (volL m vo).blocks bl, 0⟩) := by unfold doL; rw [if_neg (by rw [(may_iff m).2 hm]; simp), if_neg (by rw [h0]; simp)]; rfl
    rw [hx, volL_look]
    rw [hf] at h0
    unfold readC at h0 ⊢
    cases hg : getV m vo with
    | none => rw [hg] at h0; cases h0
    | some d =>
      rw [hg] at h0
      simp only at h0 ⊢
      split at h0
      · cases h0
      · rename_i h; rw [if_neg h]; rfl
  · rw [doL_fault hm h0, hf]
    rw [hf] at h0
    unfold readC at h0 ⊢
    cases hg : getV m vo with
    | none => rfl
    | some d =>
      rw [hg] at h0
      simp only at h0 ⊢
      split
      · rfl
      · rename_i h; rw [if_neg h] at h0; exact absurd rfl h0

/-- what stands behind what was asked without an error -/
inductive Done (m : List VolD) (x : OpD) : List VolD → Prop
  | made (h : x.act = 0) (hv : 1 ≤ x.vol ∧ x.vol ≤ 1000) (hs : 0 ≤ x.n ∧ x.n ≤ 100000) (hg : getV m x.vol = none) (hl : m.length < 64) : Done m x (putG VolD.id m ⟨x.vol, x.n, []⟩)
  | gone (h : x.act = 1) (d : VolD) (hg : getV m x.vol = some d) : Done m x (m.filter fun e => !(e.id == x.vol))
  | sized (h : x.act = 2) (d : VolD) (hg : getV m x.vol = some d) (hs : 0 ≤ x.n ∧ x.n ≤ 100000) : Done m x (putG VolD.id m ⟨d.id, x.n, if x.n < d.size then cutL d.blocks x.n d.size else d.blocks⟩)
  | wrote (h : x.act = 4) (d : VolD) (hg : getV m x.vol = some d) (ht : x.text.size = 256) (hb : 0 ≤ x.block ∧ x.block < d.size) : Done m x (putG VolD.id m ⟨d.id, d.size, putG BlkD.pos d.blocks ⟨x.block, x.text⟩⟩)
  | cut (h : x.act = 5) (d : VolD) (hg : getV m x.vol = some d) (hb : 0 ≤ x.block ∧ 0 ≤ x.n ∧ x.block + x.n ≤ d.size) : Done m x (putG VolD.id m ⟨d.id, d.size, cutL d.blocks x.block (x.block + x.n)⟩)
  | snap (h : x.act = 6) (d : VolD) (hg : getV m x.vol = some d) (ht : 1 ≤ x.dest ∧ x.dest ≤ 1000) (hn : getV m x.dest = none) (hl : m.length < 64) : Done m x (putG VolD.id m ⟨x.dest, d.size, d.blocks⟩)
  | asked (h : x.act = 3 ∨ x.act = 7 ∨ x.act = 8 ∨ x.act = 9) : Done m x m

theorem fault_cases {m : List VolD} {x : OpD} (h : faultL m x = 0) : 0 ≤ x.act ∧ x.act ≤ 9 := by
  apply Classical.byContradiction; intro hn
  rw [faultL_out (by omega)] at h; cases h
theorem doL_done {m : List VolD} (hm : MayP m) {x : OpD} (hf : faultL m x = 0) : Done m x (doL m x).1 ∧ (doL m x).2.code = 0 := by
  obtain ⟨ac, vo, de, bl, nn, tx⟩ := x
  have hac := fault_cases hf
  have hmay := (may_iff m).2 hm
  have h10 : ac = 0 ∨ ac = 1 ∨ ac = 2 ∨ ac = 3 ∨ ac = 4 ∨ ac = 5 ∨ ac = 6 ∨ ac = 7 ∨ ac = 8 ∨ ac = 9 := by simp only at hac; omega
  have key : ∀ r, (mayL m = true → faultL m ⟨ac, vo, de, bl, nn, tx⟩ = 0 → doL m ⟨ac, vo, de, bl, nn, tx⟩ = r) → doL m ⟨ac, vo, de, bl, nn, tx⟩ = r := fun r h => h hmay hf
  have of5 : 1 ≤ ac ∧ ac ≤ 5 → ∃ d, getV m vo = some d ∧ faultOfL d.size ⟨ac, vo, de, bl, nn, tx⟩ = 0 := fun h => by
    rw [faultL_of (x := ⟨ac, vo, de, bl, nn, tx⟩) h] at hf
    obtain ⟨d, hd, hs⟩ := size_some hm (faultOf_neg hf)
    exact ⟨d, hd, by rw [← hs]; exact hf⟩
  rcases h10 with rfl | rfl | rfl | rfl | rfl | rfl | rfl | rfl | rfl | rfl
  · have e : doL m ⟨0, vo, de, bl, nn, tx⟩ = (withL m ⟨vo, nn, []⟩, .zero) := by unfold doL; rw [if_neg (by rw [hmay]; simp), if_neg (by rw [hf]; simp)]; rfl
    rw [faultL_0] at hf
    by_cases h1 : vo < 1 ∨ 1000 < vo ∨ nn < 0 ∨ 100000 < nn
    · rw [if_pos h1] at hf; cases hf
    · rw [if_neg h1] at hf
      by_cases h2 : 0 ≤ sizeL m vo ∨ 64 ≤ m.length
      · rw [if_pos h2] at hf; cases hf
      · have hg := size_no hm (show sizeL m vo < 0 by omega)
        rw [e, withL_put hm.rise (d := ⟨vo, nn, []⟩) hg]
        exact ⟨.made rfl (by show 1 ≤ vo ∧ vo ≤ 1000; omega) (by show 0 ≤ nn ∧ nn ≤ 100000; omega) hg (by omega), rfl⟩
  · have e : doL m ⟨1, vo, de, bl, nn, tx⟩ = (dropL m vo, .zero) := by unfold doL; rw [if_neg (by rw [hmay]; simp), if_neg (by rw [hf]; simp)]; rfl
    obtain ⟨d, hd, _⟩ := of5 (by decide)
    rw [e, dropL_filter hm.rise]
    exact ⟨.gone rfl d hd, rfl⟩
  · have e : doL m ⟨2, vo, de, bl, nn, tx⟩ = (onL m vo fun d => ⟨d.id, nn, if nn < d.size then cutL d.blocks nn d.size else d.blocks⟩, .zero) := by unfold doL; rw [if_neg (by rw [hmay]; simp), if_neg (by rw [hf]; simp)]; rfl
    obtain ⟨d, hd, h5⟩ := of5 (by decide)
    rw [e, onL_put hm.rise hd _ rfl]
    refine ⟨.sized rfl d hd ?_, rfl⟩
    unfold faultOfL at h5
    by_cases h : nn < 0 ∨ 100000 < nn
    · rw [if_pos ⟨rfl, h⟩] at h5; cases h5
    · show 0 ≤ nn ∧ nn ≤ 100000; omega
  · rw [doL_read hm]
    refine ⟨.asked (.inl rfl), ?_⟩
    have e := hf
    by_cases h0 : (readC (getV m vo) bl).1 = 0
    · exact h0
    · exfalso
      have e2 := doL_read hm vo de bl nn tx
      have e3 : doL m ⟨3, vo, de, bl, nn, tx⟩ = (m, ⟨0, textL (volL m vo).blocks bl, 0⟩) := by unfold doL; rw [if_neg (by rw [hmay]; simp), if_neg (by rw [hf]; simp)]; rfl
      rw [e2] at e3
      injection e3 with _ e4
      injection e4 with e5
      exact h0 e5
  · have e : doL m ⟨4, vo, de, bl, nn, tx⟩ = (onL m vo fun d => ⟨d.id, d.size, writtenL d.blocks ⟨bl, tx⟩⟩, .zero) := by unfold doL; rw [if_neg (by rw [hmay]; simp), if_neg (by rw [hf]; simp)]; rfl
    obtain ⟨d, hd, h5⟩ := of5 (by decide)
    have hv := hm.vol d (look_mem hd).1
    rw [e, onL_put hm.rise hd _ rfl]
    simp only [written_put hv.rise]
    unfold faultOfL at h5
    rw [if_neg (fun h => absurd h.1 (by simp))] at h5
    by_cases ht : tx.size = 256
    · by_cases hb : bl < 0 ∨ d.size ≤ bl
      · rw [if_neg (fun h => h.2 ht), if_neg (by have := hv.size.1; omega), if_pos ⟨.inr rfl, hb⟩] at h5; cases h5
      · exact ⟨.wrote rfl d hd ht (by show 0 ≤ bl ∧ bl < d.size; omega), rfl⟩
    · rw [if_pos ⟨rfl, ht⟩] at h5; cases h5
  · have e : doL m ⟨5, vo, de, bl, nn, tx⟩ = (onL m vo fun d => ⟨d.id, d.size, cutL d.blocks bl (bl + nn)⟩, .zero) := by unfold doL; rw [if_neg (by rw [hmay]; simp), if_neg (by rw [hf]; simp)]; rfl
    obtain ⟨d, hd, h5⟩ := of5 (by decide)
    have hv := hm.vol d (look_mem hd).1
    rw [e, onL_put hm.rise hd _ rfl]
    unfold faultOfL at h5
    by_cases hb : bl < 0 ∨ nn < 0 ∨ d.size < bl ∨ d.size - bl < nn
    · rw [if_neg (fun h => absurd h.1 (by simp)), if_neg (fun h => absurd h.1 (by simp)), if_neg (by have := hv.size.1; omega), if_neg (fun h => absurd h.1 (by simp)), if_pos ⟨rfl, hb⟩] at h5; cases h5
    · exact ⟨.cut rfl d hd (by show 0 ≤ bl ∧ 0 ≤ nn ∧ bl + nn ≤ d.size; omega), rfl⟩
  · have e : doL m ⟨6, vo, de, bl, nn, tx⟩ = (withL m ⟨de, (volL m vo).size, (volL m vo).blocks⟩, .zero) := by unfold doL; rw [if_neg (by rw [hmay]; simp), if_neg (by rw [hf]; simp)]; rfl
    rw [faultL_6] at hf
    by_cases h1 : de < 1 ∨ 1000 < de
    · rw [if_pos h1] at hf; cases hf
    · rw [if_neg h1] at hf
      by_cases h2 : sizeL m vo < 0 ∨ 0 ≤ sizeL m de ∨ 64 ≤ m.length
      · rw [if_pos h2] at hf; cases hf
      · obtain ⟨d, hd, hs⟩ := size_some hm (show 0 ≤ sizeL m vo by omega)
        have hg := size_no hm (show sizeL m de < 0 by omega)
        rw [e, volL_look, hd]; simp only [Option.getD_some]; rw [withL_put hm.rise (d := ⟨de, d.size, d.blocks⟩) hg]
        exact ⟨.snap rfl d hd (by show 1 ≤ de ∧ de ≤ 1000; omega) hg (by omega), rfl⟩
  · have e : doL m ⟨7, vo, de, bl, nn, tx⟩ = (m, .zero) := by unfold doL; rw [if_neg (by rw [hmay]; simp), if_neg (by rw [hf]; simp)]; rfl
    rw [e]; exact ⟨.asked (.inr (.inl rfl)), rfl⟩
  · have e : doL m ⟨8, vo, de, bl, nn, tx⟩ = (m, ⟨0, statusB m, m.length⟩) := by unfold doL; rw [if_neg (by rw [hmay]; simp), if_neg (by rw [hf]; simp)]; rfl
    rw [e]; exact ⟨.asked (.inr (.inr (.inl rfl))), rfl⟩
  · have e : doL m ⟨9, vo, de, bl, nn, tx⟩ = (m, .zero) := by unfold doL; rw [if_neg (by rw [hmay]; simp), if_neg (by rw [hf]; simp)]; rfl
    rw [e]; exact ⟨.asked (.inr (.inr (.inr rfl))), rfl⟩

theorem cut_ok {d : VolD} (h : VolP d) (lo hi size : Int) (hs : ∀ b ∈ d.blocks, ¬ (lo ≤ b.pos ∧ b.pos < hi) → b.pos < size) (h1 : 0 ≤ size ∧ size ≤ 100000) : VolP ⟨d.id, size, cutL d.blocks lo hi⟩ :=
  ⟨h.id, h1, h.rise.filter _, fun b hb => by
    unfold cutL at hb
    obtain ⟨hb1, hb2⟩ := List.mem_filter.1 hb
    have := h.blk b hb1
    exact ⟨this.1, hs b hb1 (by unfold inB at hb2; simp at hb2; omega), this.2.2⟩⟩
theorem put_may {m : List VolD} (h : MayP m) {d e : VolD} (hg : getV m d.id = some e) (hd : VolP d) : MayP (putG VolD.id m d) :=
  ⟨Nat.le_trans (put_len_in hg) h.len, rising_put h.rise d, fun y hy => by
    rcases mem_put hy with rfl | hy
    · exact hd
    · exact h.vol y hy⟩
theorem add_may {m : List VolD} (h : MayP m) {d : VolD} (hl : m.length < 64) (hd : VolP d) : MayP (putG VolD.id m d) :=
  ⟨Nat.le_trans (put_len_le _ _ _) hl, rising_put h.rise d, fun y hy => by
    rcases mem_put hy with rfl | hy
    · exact hd
    · exact h.vol y hy⟩
theorem Done.may {m n : List VolD} {x : OpD} (hm : MayP m) (h : Done m x n) : MayP n := by
  cases h with
  | made h hv hs hg hl => exact add_may hm hl ⟨hv, hs, List.Pairwise.nil, fun b hb => by simp at hb⟩
  | gone h d hg => exact ⟨Nat.le_trans (List.length_filter_le _ _) hm.len, hm.rise.filter _, fun y hy => hm.vol y (List.mem_filter.1 hy).1⟩
  | sized h d hg hs =>
    have hv := hm.vol d (look_mem hg).1
    refine put_may hm (e := d) (by show getV m d.id = _; rw [(look_mem hg).2]; exact hg) ?_
    split
    · rename_i hlt
      exact cut_ok hv _ _ _ (fun b hb hn => by have := hv.blk b hb; omega) hs
    · rename_i hge
      exact ⟨hv.id, hs, hv.rise, fun b hb => by have := hv.blk b hb; exact ⟨this.1, by show b.pos < x.n; omega, this.2.2⟩⟩
  | wrote h d hg ht hb =>
    have hv := hm.vol d (look_mem hg).1
    refine put_may hm (e := d) (by show getV m d.id = _; rw [(look_mem hg).2]; exact hg) ⟨hv.id, hv.size, rising_put hv.rise _, fun b hb2 => ?_⟩
    rcases mem_put hb2 with rfl | hb2
    · exact ⟨hb.1, hb.2, ht⟩
    · exact hv.blk b hb2
  | cut h d hg hb =>
    have hv := hm.vol d (look_mem hg).1
    exact put_may hm (e := d) (by show getV m d.id = _; rw [(look_mem hg).2]; exact hg) (cut_ok hv _ _ _ (fun b hb2 _ => (hv.blk b hb2).2.1) hv.size)
  | snap h d hg ht hn hl =>
    have hv := hm.vol d (look_mem hg).1
    exact add_may hm hl ⟨ht, hv.size, hv.rise, hv.blk⟩
  | asked h => exact hm
theorem doL_may {m : List VolD} (hm : MayP m) (x : OpD) : MayP (doL m x).1 := by
  by_cases h : faultL m x = 0
  · exact (doL_done hm h).1.may hm
  · rw [doL_fault hm h]; exact hm
theorem doL_code {m : List VolD} (hm : MayP m) (x : OpD) : (doL m x).2.code = faultL m x := by
  by_cases h : faultL m x = 0
  · rw [(doL_done hm h).2, h]
  · rw [doL_fault hm h]
/-- how many blocks there are behind an act -/
theorem doL_len {m : List VolD} (hm : MayP m) (x : OpD) (n : Nat) (h : ∀ d ∈ m, d.blocks.length ≤ n) : ∀ d ∈ (doL m x).1, d.blocks.length ≤ n + 1 := by
  by_cases hf : faultL m x = 0
  · have hd := (doL_done hm hf).1
    generalize (doL m x).1 = N at hd ⊢
    cases hd with
    | made hh hv hs hg hl => intro y hy; rcases mem_put hy with rfl | hy; exact Nat.zero_le _; have := h y hy; omega
    | gone hh d hg => intro y hy; have := h y (List.mem_filter.1 hy).1; omega
    | sized hh d hg hs =>
      intro y hy
      have hdl := h d (look_mem hg).1
      rcases mem_put hy with rfl | hy
      · show (if _ then _ else _ : List BlkD).length ≤ _
        split
        · have := List.length_filter_le (fun b => !inB x.n d.size b) d.blocks
          show (List.filter _ _).length ≤ _; omega
        · omega
      · have := h y hy; omega
    | wrote hh d hg ht hb =>
      intro y hy
      have hdl := h d (look_mem hg).1
      rcases mem_put hy with rfl | hy
      · have := put_len_le BlkD.pos d.blocks ⟨x.block, x.text⟩; show (putG _ _ _).length ≤ _; omega
      · have := h y hy; omega
    | cut hh d hg hb =>
      intro y hy
      have hdl := h d (look_mem hg).1
      rcases mem_put hy with rfl | hy
      · have := List.length_filter_le (fun b => !inB x.block (x.block + x.n) b) d.blocks
        show (List.filter _ _).length ≤ _; omega
      · have := h y hy; omega
    | snap hh d hg ht hn hl =>
      intro y hy
      have hdl := h d (look_mem hg).1
      rcases mem_put hy with rfl | hy
      · show d.blocks.length ≤ _; omega
      · have := h y hy; omega
    | asked hh => intro y hy; have := h y hy; omega
  · rw [doL_fault hm hf]; intro d hd; have := h d hd; omega
end Go.Proofs.YtgabifkechofnaaDoor
