/- The walks of the reference's Words and Texts. -/
import Derived.Test.YtolegljmaacabaaDoorReqC
import Derived.Test.YtolegljmaacabaaDoorCrc
namespace Go.Proofs.YtolegljmaacabaaDoor
open Go.RowKit

/-- the words from here on, where cur has come of one -/
def scanW (cur : List UInt8) : List UInt8 → List (List UInt8)
  | [] => if cur = [] then [] else [cur]
  | b :: r => if b = 32 then (if cur = [] then scanW [] r else cur :: scanW [] r) else scanW (cur ++ [b]) r
theorem scanW_eq : ∀ (l cur : List UInt8), (∀ b ∈ cur, b ≠ 32) → scanW cur l = wordsL (cur ++ l)
  | [], cur, h => by
    unfold scanW wordsL
    rw [List.append_nil, splitL_plain cur h]
    by_cases e : cur = [] <;> simp [e]
  | b :: r, cur, h => by
    unfold scanW
    by_cases hb : b = 32
    · rw [if_pos hb, hb, scanW_eq r [] (by simp), List.nil_append]
      unfold wordsL
      rw [splitL_at cur r h]
      by_cases e : cur = [] <;> simp [e]
    · rw [if_neg hb, scanW_eq r (cur ++ [b]) (by intro c hc; rcases List.mem_append.1 hc with hc | hc
                                                 · exact h c hc
                                                 · rw [List.mem_singleton.1 hc]; exact hb)]
      simp

def RWRel (s : ByteArray) (B : Nat) (w : World) (v cur i : Value) (wr : World) : Prop :=
  ∃ (k : Nat) (ws : List ByteArray) (c : ByteArray), k ≤ s.size + 1 ∧ i = .int .i64 k ∧ cur = .string c ∧ wr.ownsRow B 9 1 v ws.length (strsV ws) ∧ Below B w wr ∧ ws.length ≤ k ∧ c.size ≤ k ∧
    (k ≤ s.size → ws.map (fun x => x.data.toList) ++ scanW c.data.toList (s.data.toList.drop k) = wordsL s.data.toList) ∧ (k = s.size + 1 → ws.map (fun x => x.data.toList) = wordsL s.data.toList)

theorem drop_at (s : ByteArray) (k : Nat) (h : k < s.size) : s.data.toList.drop k = s[k] :: s.data.toList.drop (k + 1) := by
  rw [List.drop_eq_getElem_cons (by simpa using h)]; rfl
theorem cut_one (s : ByteArray) (k : Nat) (h : k < s.size) : (s.extract k (k + 1)).data.toList = [s[k]] := by
  rw [Lib.extract_data, drop_at s k h]; simp

/-- a part is at its end: what has come of words -/
theorem rw_push {s : ByteArray} {k : Nat} {ws ws' : List ByteArray} {c : ByteArray} (hk : k = s.size ∨ ∃ h : k < s.size, s[k] = 32) (hws : ws' = if c.data.toList = [] then ws else ws ++ [c])
    (h : ws.map (fun x => x.data.toList) ++ scanW c.data.toList (s.data.toList.drop k) = wordsL s.data.toList) :
    (k + 1 ≤ s.size → ws'.map (fun x => x.data.toList) ++ scanW (⟨#[]⟩ : ByteArray).data.toList (s.data.toList.drop (k + 1)) = wordsL s.data.toList) ∧ (k + 1 = s.size + 1 → ws'.map (fun x => x.data.toList) = wordsL s.data.toList) := by
  rw [← h, hws]
  rcases hk with rfl | ⟨hk, h32⟩
  · refine ⟨fun h => by omega, fun _ => ?_⟩
    rw [List.drop_of_length_le (by simp)]
    unfold scanW
    split <;> simp
  · refine ⟨fun _ => ?_, fun h => by omega⟩
    rw [drop_at s k hk]
    rw [show scanW c.data.toList (s[k] :: s.data.toList.drop (k + 1)) = if c.data.toList = [] then scanW [] (s.data.toList.drop (k + 1)) else c.data.toList :: scanW [] (s.data.toList.drop (k + 1)) by rw [scanW, if_pos h32]]
    show _ ++ scanW [] _ = _
    split <;> simp
theorem rw_go {s : ByteArray} {k : Nat} {ws : List ByteArray} {c : ByteArray} (hk : k < s.size) (hne : s[k] ≠ 32)
    (h : ws.map (fun x => x.data.toList) ++ scanW c.data.toList (s.data.toList.drop k) = wordsL s.data.toList) :
    ws.map (fun x => x.data.toList) ++ scanW (c ++ s.extract k (k + 1)).data.toList (s.data.toList.drop (k + 1)) = wordsL s.data.toList := by
  rw [← h, drop_at s k hk]
  rw [show scanW c.data.toList (s[k] :: s.data.toList.drop (k + 1)) = scanW (c.data.toList ++ [s[k]]) (s.data.toList.drop (k + 1)) by rw [scanW, if_neg hne]]
  rw [ByteArray.data_append, Array.toList_append, cut_one s k hk]

set_option maxRecDepth 100000 in
set_option maxHeartbeats 1000000 in
theorem rwords_any (s : ByteArray) (hs : s.size ≤ 2000000) (w : World) : Calls Tryd.prog 14 #[.string s] w fun e W' =>
    ∃ v ws, e = .returned v ∧ (ws : List ByteArray).map (fun x => x.data.toList) = wordsL s.data.toList ∧ W'.ownsRow w.heap.size 9 1 v ws.length (strsV ws) ∧ Below w.heap.size w W' := by
  obtain ⟨i0, hi, hz0, hz1, hz2⟩ := info_parts infoStr
  go_enter Tryd.func14, Tryd.ntmps14
  go_wp2_with fail
  go_loopw [3, 4, 5] (fun v cur i wr => RWRel s w.heap.size w v cur i wr) (fun _ _ i _ => s.size + 1 - (intOf i).toNat)
  case atStart =>
    refine ⟨0, [], ⟨#[]⟩, by omega, rfl, rfl, World.ownsRow_made w #[] 0 (Nat.le_refl _) (by unfold maxLen; omega) rfl, (Below.refl _ _).alloc (Nat.le_refl _) _, by simp, Nat.le_refl 0, fun _ => ?_, fun h => by omega⟩
    simp only [List.map_nil, List.nil_append, List.drop_zero]
    exact scanW_eq _ _ (by simp)
  case round =>
    obtain ⟨k, ws, c, hk, rfl, rfl, hown, hbel, hwk, hck, h1, h2⟩ := hrel
    by_cases hle : k ≤ s.size
    · have d1 : decide ((k : Int) ≤ (s.size : Int)) = true := by simp; omega
      have d1' : (k : Int) ≤ (s.size : Int) := by omega
      have h1' := h1 hle
      have HO := Lib.hid hown; have HB := Lib.hid hbel; have H1 := Lib.hid h1'
      clear h1 h2 h1' hown hbel
      by_cases hmid : ∃ h : k < s.size, s[k] ≠ 32
      · obtain ⟨hlt, hne⟩ := hmid
        have d2 : decide ((k : Int) < (s.size : Int)) = true := by simp; omega
        have d2' : (k : Int) < (s.size : Int) := by omega
        have d3 : ((s[k].toNat : Int) != 32) = true := by
          rw [bne_iff_ne]; intro e
          exact hne (UInt8.toNat_inj.1 (by simpa using (Int.ofNat.inj e)))
        have hgo := rw_go hlt hne H1.out
        have HG := Lib.hid hgo
        clear hgo hne
        have hsz : (c ++ s.extract k (k + 1)).size ≤ k + 1 := by rw [ByteArray.size_append, ByteArray.size_extract]; omega
        have HSZ := Lib.hid hsz; clear hsz
        go_wp2_with fail
        refine ⟨⟨k + 1, ws, c ++ s.extract k (k + 1), by omega, by go_num, rfl, HO.out, HB.out, by omega, HSZ.out, fun _ => HG.out, fun h => by omega⟩, by simp [intOf]; omega⟩
      · have hk' : k = s.size ∨ ∃ h : k < s.size, s[k] = 32 := by
          by_cases h : k < s.size
          · refine .inr ⟨h, ?_⟩
            by_cases e : s[k] = 32
            · exact e
            · exact absurd ⟨h, e⟩ hmid
          · exact .inl (by omega)
        have hcase : s.size ≤ k ∨ ∃ h : k < s.size, ((s[k].toNat : Int) != 32) = false := by
          rcases hk' with h | ⟨h, e⟩
          · left; omega
          · right; exact ⟨h, by rw [e]; rfl⟩
        clear hmid
        by_cases hc : c.data.toList = []
        · have hp := rw_push hk' (ws' := ws) (by rw [if_pos hc]) H1.out
          have HP := Lib.hid hp; clear hp hk'
          have hc1 : c.toList = [] := by rw [ByteArray.toList_eq]; exact hc
          have hc2 : c.toList.isEmpty = true := by rw [hc1]; rfl
          clear hc hc1
          rcases hcase with d2 | ⟨hlt, d3⟩
          · have d4 : decide ((k : Int) < (s.size : Int)) = false := by simp; omega
            have d5 : decide (k < s.size) = false := by simp; omega
            go_wp2_with fail
            exact ⟨⟨k + 1, ws, ⟨#[]⟩, by omega, by go_num, rfl, HO.out, HB.out, by omega, Nat.zero_le _, HP.out.1, HP.out.2⟩, by simp [intOf]; omega⟩
          · have d2 : decide ((k : Int) < (s.size : Int)) = true := by simp; omega
            have d2' : (k : Int) < (s.size : Int) := by omega
            go_wp2_with fail
            exact ⟨⟨k + 1, ws, ⟨#[]⟩, by omega, by go_num, rfl, HO.out, HB.out, by omega, Nat.zero_le _, HP.out.1, HP.out.2⟩, by simp [intOf]; omega⟩
        · have hp := rw_push hk' (ws' := ws ++ [c]) (by rw [if_neg hc]) H1.out
          have HP := Lib.hid hp; clear hp hk'
          have hc1 : c.toList ≠ [] := by rw [ByteArray.toList_eq]; exact hc
          have hc2 : c.toList.isEmpty = false := by simpa using hc1
          have hbs := HB.out.size
          clear hc hc1
          rcases hcase with d2 | ⟨hlt, d3⟩
          all_goals
            try have d2 : decide ((k : Int) < (s.size : Int)) = true := by simp; omega
            try have d2' : (k : Int) < (s.size : Int) := by omega
            try have d4 : decide ((k : Int) < (s.size : Int)) = false := by simp; omega
            try have d5 : decide (k < s.size) = false := by simp; omega
            go_wp2_with (at_builtin; refine wpList_append_own _ rfl (.tmp 32) (.tmp 34) 33 rfl w.heap.size 9 i0 (.string ⟨#[]⟩) 1 16 Tryd.underlying33 hi hz0 hz1 hz2 rfl (by decide) _ _ _ rfl (HO.out.alloc _) ⟨wr.heap.size, 0, none⟩ 1 1 [.string c] rfl rfl (cell_one_new _ _ _) (by simp [Value.oneCell']) (by unfold maxLen; omega) (by omega) (by simp; omega) ?_; intro v1 w1 hown1 hg1 _)
            have hb1 := ow_grown HB.out HB.out.size HO.out hg1
            refine ⟨⟨k + 1, ws ++ [c], ⟨#[]⟩, by omega, by go_num, rfl, ?_, hb1, by simp; omega, Nat.zero_le _, HP.out.1, HP.out.2⟩, by simp [intOf]; omega⟩
            simpa [strsV] using hown1
    · obtain rfl : k = s.size + 1 := by omega
      have d1 : decide ((s.size : Int) + 1 ≤ (s.size : Int)) = false := by simp; omega
      have HF := Lib.hid (h2 rfl)
      have HO := Lib.hid hown; have HB := Lib.hid hbel
      clear h1 h2 hown hbel
      go_wp2_with fail
      go_ret
      exact ⟨_, ws, rfl, HF.out, HO.out, HB.out⟩

def textsEq (n m : Nat) (f g : Nat → ByteArray) : Bool := decide (n = m ∧ ∀ k, k < n → f k = g k)
theorem textsEq_no {n m : Nat} {f g : Nat → ByteArray} (k : Nat) (hk : k < n) (h : f k ≠ g k) : textsEq n m f g = false := by
  unfold textsEq; rw [decide_eq_false_iff_not]; rintro ⟨_, h2⟩; exact h (h2 k hk)
theorem textsEq_yes {n : Nat} {f g : Nat → ByteArray} (h : ∀ k, k < n → f k = g k) : textsEq n n f g = true := by
  unfold textsEq; rw [decide_eq_true_eq]; exact ⟨rfl, h⟩

set_option maxHeartbeats 400000 in
theorem texts_any (n m ca cb : Nat) (pa pb : Option Addr) (f g : Nat → ByteArray) (hn : n ≤ 140737488355328) (hm : m ≤ 140737488355328) (w : World)
    (ha : ∀ k, k < n → ∃ b o, pa = some ⟨b, o, none⟩ ∧ w.cell? ⟨b, o + k, none⟩ = some (.string (f k)))
    (hb : ∀ k, k < m → ∃ b o, pb = some ⟨b, o, none⟩ ∧ w.cell? ⟨b, o + k, none⟩ = some (.string (g k))) :
    Calls Tryd.prog 12 #[.slice pa n ca, .slice pb m cb] w fun e w' => e = .returned (.bool (textsEq n m f g)) ∧ ∃ q, w' = w.drewN q := by
  by_cases hnm : n = m
  · subst hnm
    have HA := Lib.hid ha; have HB := Lib.hid hb
    clear ha hb
    go_enter Tryd.func12, Tryd.ntmps12
    go_wp2_with fail
    go_loopw [5] (fun i wr => ∃ k : Nat, k ≤ n ∧ i = .int .i64 k ∧ (∀ j, j < k → f j = g j) ∧ ∃ q, wr = w.drewN q) (fun i _ => n - (intOf i).toNat)
    case atStart => exact ⟨0, by omega, rfl, fun j hj => by omega, 0, rfl⟩
    case round =>
      obtain ⟨k, hk, rfl, heq, q, rfl⟩ := hrel
      have HE := Lib.hid heq; clear heq
      by_cases hlt : k < n
      · obtain ⟨b1, o1, hp1, hc1⟩ := HA.out k hlt
        obtain ⟨b2, o2, hp2, hc2⟩ := HB.out k hlt
        subst hp1; subst hp2
        have hki : (k : Int) < (n : Int) := by omega
        by_cases hfg : f k = g k
        · have hne : ((f k).toList == (g k).toList) = true := by rw [hfg]; simp
          have HFG := Lib.hid hfg; clear hfg
          go_wp2_with fail
          go_quiet (fail)
          go_wp2_with fail
          refine ⟨⟨k + 1, by omega, by go_num, ?_, _, rfl⟩, by simp [intOf]; omega⟩
          intro j hj
          by_cases e : j = k
          · rw [e]; exact HFG.out
          · exact HE.out j (by omega)
        · have hne : ((f k).toList == (g k).toList) = false := by
            rw [beq_eq_false_iff_ne]; intro e
            rw [ByteArray.toList_eq, ByteArray.toList_eq] at e
            exact hfg (Go.WideShapes.bytes_inj e)
          have hres := textsEq_no (m := n) k hlt hfg
          have HRES := Lib.hid hres; clear hres hfg
          go_wp2_with fail
          go_quiet (fail)
          go_wp2_with fail
          go_ret
          exact ⟨by rw [HRES.out]; rfl, _, World.drewN_drewN _ _ _⟩
      · obtain rfl : k = n := by omega
        have hres := textsEq_yes HE.out
        have HRES := Lib.hid hres; clear hres
        go_wp2_with fail
        go_ret
        exact ⟨by rw [HRES.out]; rfl, _, rfl⟩
  · have hne : ((n : Int) != (m : Int)) = true := by simp; omega
    have hres : textsEq n m f g = false := by unfold textsEq; rw [decide_eq_false_iff_not]; exact fun h => hnm h.1
    have HRES := Lib.hid hres; clear hres ha hb hnm
    go_enter Tryd.func12, Tryd.ntmps12
    go_wp2_with fail
    go_ret
    exact ⟨by rw [HRES.out]; rfl, 0, rfl⟩
end Go.Proofs.YtolegljmaacabaaDoor
