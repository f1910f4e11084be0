/- RequestBlanks: blanks ahead, behind, and where one stands, change nothing of what is asked; what is asked has a text of 256 bytes, if it is a write, and else none; and no number below 0: the law returns true for every input. Conditions: the arguments are together of bulk at most 1048576; the listed tables lie as the program's text lays them (the card ties that). -/
import Derived.Test.YtolegljmaacabaaDoorReqK
import Derived.Test.YtolegljmaacabaaDoorLaid2
import Derived.Test.YtolegljmaacabaaDoorReqLP
namespace Go.Proofs.YtolegljmaacabaaDoor.requestBlanks
open Go.Stop Go.ChangeShapes Go.WideShapes Go.ChangeAt Go.RowKit
open Go.ChangeMaps (open_string)

def opV (ac vo de bl nn : Int) (tx : ByteArray) : Value := .agg #[.int .i64 ac, .int .i64 vo, .int .i64 de, .int .i64 bl, .int .i64 nn, .string tx]
theorem parse_same (s t : ByteArray) (ht : t.size ≤ 2000000) (hw : wordsL t.data.toList = wordsL s.data.toList) {o : OpD} (ho : parseL (wordsL s.data.toList) = some o) (w : World) :
    Calls Tryd.prog 8 #[.string t] w fun e w' => e = .returned (.tuple #[opV o.act o.vol o.dest o.block o.n o.text, .bool true]) ∧ Below w.heap.size w w' := by
  refine (parse_any t ht w).mono ?_
  rintro e w' ⟨rfl, hb⟩
  rw [hw, ho]
  exact ⟨rfl, hb⟩
theorem parse_none (s : ByteArray) (hs : s.size ≤ 2000000) (ho : parseL (wordsL s.data.toList) = none) (w : World) :
    Calls Tryd.prog 8 #[.string s] w fun e w' => e = .returned (.tuple #[opV 0 0 0 0 0 ⟨#[]⟩, .bool false]) ∧ Below w.heap.size w w' := by
  refine (parse_any s hs w).mono ?_
  rintro e w' ⟨rfl, hb⟩
  rw [ho]
  exact ⟨rfl, hb⟩
def BX (W : World) (b : Nat) (ac vo de bl nn : Int) (tx : ByteArray) : Prop := W.heap[b]? = some (.cells #[.int .i64 ac, .int .i64 vo, .int .i64 de, .int .i64 bl, .int .i64 nn, .string tx] 27 (0, 0))
theorem BX.below {W W' : World} {b : Nat} {ac vo de bl nn : Int} {tx : ByteArray} (h : BX W b ac vo de bl nn tx) (hb : Below W.heap.size W W') : BX W' b ac vo de bl nn tx := (hb.block _ (Array.getElem?_eq_some_iff.1 h).1).trans h
theorem BX.cells {W : World} {b : Nat} {ac vo de bl nn : Int} {tx : ByteArray} (h : BX W b ac vo de bl nn tx) :
    W.cell? ⟨b, 0, none⟩ = some (.int .i64 ac) ∧ W.cell? ⟨b, 1, none⟩ = some (.int .i64 vo) ∧ W.cell? ⟨b, 2, none⟩ = some (.int .i64 de) ∧ W.cell? ⟨b, 3, none⟩ = some (.int .i64 bl) ∧ W.cell? ⟨b, 4, none⟩ = some (.int .i64 nn) ∧ W.cell? ⟨b, 5, none⟩ = some (.string tx) := by
  unfold BX at h; simp [World.cell?, h]
theorem around (s : ByteArray) : wordsL ((⟨#[32]⟩ ++ s) ++ ⟨#[32, 32]⟩ : ByteArray).data.toList = wordsL s.data.toList := by
  rw [← words_around s.data.toList]; congr 1
theorem amid (s : ByteArray) (m : Nat) (h : m < s.size) (hb : s[m] = 32) : wordsL ((s.extract 0 m ++ ⟨#[32, 32, 32]⟩) ++ s.extract m s.size).data.toList = wordsL s.data.toList := by
  have hl : m < s.data.toList.length := by simpa using h
  have hx : s.data.toList[m] = 32 := hb
  have e : s.data.toList = s.data.toList.take m ++ 32 :: s.data.toList.drop (m + 1) := by
    conv => lhs; rw [← List.take_append_drop m s.data.toList, List.drop_eq_getElem_cons hl, hx]
  have e2 : ((s.extract 0 m ++ ⟨#[32, 32, 32]⟩) ++ s.extract m s.size).data.toList = s.data.toList.take m ++ [32, 32, 32] ++ 32 :: s.data.toList.drop (m + 1) := by
    have e3 : (s.extract m s.size).data.toList = 32 :: s.data.toList.drop (m + 1) := by
      rw [Lib.extract_to_end, List.drop_eq_getElem_cons hl, hx]
    have e4 : (s.extract 0 m).data.toList = s.data.toList.take m := by rw [Lib.extract_data]; simp
    simp only [ByteArray.data_append, Array.toList_append, e3, e4]
  rw [e2, words_amid, ← e]
theorem around_size (s : ByteArray) (h : s.size ≤ 1000) : ((⟨#[32]⟩ ++ s) ++ ⟨#[32, 32]⟩ : ByteArray).size ≤ 2000000 := by
  rw [ByteArray.size_append, ByteArray.size_append]
  have e1 : (⟨#[32]⟩ : ByteArray).size = 1 := rfl
  have e2 : (⟨#[32, 32]⟩ : ByteArray).size = 2 := rfl
  omega
theorem amid_size (s : ByteArray) (m : Nat) (h : s.size ≤ 1000) : ((s.extract 0 m ++ ⟨#[32, 32, 32]⟩) ++ s.extract m s.size).size ≤ 2000000 := by
  rw [ByteArray.size_append, ByteArray.size_append, ByteArray.size_extract, ByteArray.size_extract]
  have e1 : (⟨#[32, 32, 32]⟩ : ByteArray).size = 3 := rfl
  omega
theorem amid_at (s : ByteArray) (a : Int) (h : a.toNat < s.size) (hb : ((s[a.toNat].toNat : Int) == 32) = true) : wordsL ((s.extract 0 a.toNat ++ ⟨#[32, 32, 32]⟩) ++ s.extract a.toNat s.size).data.toList = wordsL s.data.toList := by
  refine amid s a.toNat h ?_
  have h2 : s[a.toNat].toNat = 32 := by have := eq_of_beq hb; omega
  exact UInt8.toNat_inj.1 h2
theorem upto_hyp {H : Type} {s : ByteArray} {n : Int} (h : Rows.uptoSmall H [.lit (.string s.data.toList), .lit (.int .i64 n)] = true) : s.size ≤ 1048576 := by
  unfold Rows.uptoSmall at h
  have h2 := of_decide_eq_true h
  simp only [Rows.uptoBulkAll, Rows.uptoBulk] at h2
  have e2 : s.data.toList.length = s.size := by simp
  omega

set_option maxRecDepth 100000 in
set_option maxHeartbeats 1000000 in
theorem walk_far (s : ByteArray) (at_ : Int) (hs : 1000 < s.size) (hs2 : s.size ≤ 1048576) (w : World) (hT : Tabs w) :
    Calls Tryd.prog 4 #[.string s, .int .i64 at_] w fun e w' => e = .returned (.bool true) ∧ Below w.heap.size w w' := by
  have HT := Lib.hid hT; have HS2 := Lib.hid hs2; clear hT hs2
  have e1 : (1000 : Int) < (s.size : Int) := by omega
  clear hs
  go_enter Tryd.func4, Tryd.ntmps4
  go_wp2_with fail
  refine (parse_any s (by have := HS2.out; omega) _).mono ?_
  rintro e w1 ⟨rfl, hb⟩
  obtain ⟨⟨ac, vo, de, bl, nn, tx⟩, ho⟩ : ∃ o, (parseL (wordsL s.data.toList)).getD OpD.zero = o := ⟨_, rfl⟩
  obtain ⟨ok, hk⟩ : ∃ ok, (parseL (wordsL s.data.toList)).isSome = ok := ⟨_, rfl⟩
  rw [ho, hk]
  have HB1 := Lib.hid hb
  have HT1 := Lib.hid ((HT.out.stays hb)); clear ho hk hb
  simp only [OpD.agg]
  have HBX := Lib.hid ((Below.refl w1.heap.size w1).alloc (Nat.le_refl _) (.cells #[.int .i64 ac, .int .i64 vo, .int .i64 de, .int .i64 bl, .int .i64 nn, .string tx] 27))
  go_wp2_with fail
  refine (fixed_any _ (HT1.out.stays HBX.out)).mono ?_
  rintro e w2 ⟨rfl, hb⟩
  have HB2 := Lib.hid (btrans HB1.out (btrans HBX.out hb)); have HT2 := Lib.hid ((HT1.out.stays HBX.out).stays hb); clear hb
  go_wp2_with fail
  refine (fixed_any _ HT2.out).mono ?_
  rintro e w3 ⟨rfl, hb⟩
  have HB3 := Lib.hid (btrans HB2.out hb); clear hb
  go_wp2_with fail
  go_ret
  exact ⟨rfl, HB3.out⟩

set_option maxRecDepth 100000 in
set_option maxHeartbeats 1000000 in
theorem walk_none (s : ByteArray) (at_ : Int) (hs : s.size ≤ 1000) (hp : parseL (wordsL s.data.toList) = none) (w : World) (hT : Tabs w) :
    Calls Tryd.prog 4 #[.string s, .int .i64 at_] w fun e w' => e = .returned (.bool true) ∧ Below w.heap.size w w' := by
  have HT := Lib.hid hT; have HS := Lib.hid hs; have HP := Lib.hid hp; clear hT hp
  have e1 : ¬ (1000 : Int) < (s.size : Int) := by omega
  clear hs
  go_enter Tryd.func4, Tryd.ntmps4
  go_wp2_with fail
  refine (parse_none s (by have := HS.out; omega) HP.out _).mono ?_
  rintro e w1 ⟨rfl, hb⟩
  have HB1 := Lib.hid hb
  have HT1 := Lib.hid ((HT.out.stays hb)); clear hb
  simp only [opV]
  have HBX := Lib.hid ((Below.refl w1.heap.size w1).alloc (Nat.le_refl _) (.cells #[.int .i64 0, .int .i64 0, .int .i64 0, .int .i64 0, .int .i64 0, .string ⟨#[]⟩] 27))
  have hx1 : BX (w1.alloc (.cells #[.int .i64 0, .int .i64 0, .int .i64 0, .int .i64 0, .int .i64 0, .string ⟨#[]⟩] 27)) w1.heap.size 0 0 0 0 0 ⟨#[]⟩ := World.alloc_heap_new w1 _
  have HX1 := Lib.hid hx1; clear hx1
  go_wp2_with fail
  refine (fixed_any _ (HT1.out.stays HBX.out)).mono ?_
  rintro e w2 ⟨rfl, hb⟩
  have HB2 := Lib.hid (btrans HB1.out (btrans HBX.out hb)); have HT2 := Lib.hid ((HT1.out.stays HBX.out).stays hb)
  obtain ⟨q0, q1, q2, q3, q4, q5⟩ := (HX1.out.below hb).cells
  clear hb
  go_wp2_with fail
  go_ret
  exact ⟨by simp, HB2.out⟩

set_option maxRecDepth 100000 in
set_option maxHeartbeats 1000000 in
theorem walk_some (s : ByteArray) (at_ : Int) (hs : s.size ≤ 1000) (o : OpD) (hp : parseL (wordsL s.data.toList) = some o) (w : World) (hT : Tabs w) :
    Calls Tryd.prog 4 #[.string s, .int .i64 at_] w fun e w' => e = .returned (.bool true) ∧ Below w.heap.size w w' := by
  have HT := Lib.hid hT; have HS := Lib.hid hs; have HP := Lib.hid hp; clear hT
  have e1 : ¬ (1000 : Int) < (s.size : Int) := by omega
  clear hs
  obtain ⟨d, hd, hda, hok⟩ := parse_ok hp
  clear hp
  obtain ⟨ac, vo, de, bl, nn, tx⟩ := o
  obtain ⟨o1, o2, o3, o4, htx⟩ := hok
  simp only at hda o1 o2 o3 o4 htx
  subst hda
  have hd4 : d = 4 ∧ tx.size = 256 ∨ d ≠ 4 ∧ tx.size = 0 := by
    by_cases h4 : d = 4
    · exact .inl ⟨h4, by rw [htx, decide_eq_true h4]; rfl⟩
    · exact .inr ⟨h4, by rw [htx, decide_eq_false h4]; rfl⟩
  clear htx
  rcases hd4 with ⟨rfl, htx⟩ | ⟨hd4, htx⟩
  · clear hd
    go_enter Tryd.func4, Tryd.ntmps4
    go_wp2_with fail
    refine (parse_same s s (by have := HS.out; omega) rfl HP.out _).mono ?_
    rintro e w1 ⟨rfl, hb⟩
    have HB1 := Lib.hid hb
    have HT1 := Lib.hid ((HT.out.stays hb)); clear hb
    simp only [opV]
    have HBX := Lib.hid ((Below.refl w1.heap.size w1).alloc (Nat.le_refl _) (.cells #[.int .i64 (4 : Nat), .int .i64 vo, .int .i64 de, .int .i64 bl, .int .i64 nn, .string tx] 27))
    have hx1 : BX (w1.alloc (.cells #[.int .i64 (4 : Nat), .int .i64 vo, .int .i64 de, .int .i64 bl, .int .i64 nn, .string tx] 27)) w1.heap.size (4 : Nat) vo de bl nn tx := World.alloc_heap_new w1 _
    have HX1 := Lib.hid hx1; clear hx1
    go_wp2_with fail
    refine (fixed_any _ (HT1.out.stays HBX.out)).mono ?_
    rintro e w2 ⟨rfl, hb⟩
    have HB2 := Lib.hid (btrans HB1.out (btrans HBX.out hb))
    have HX2 := Lib.hid (HX1.out.below hb)
    obtain ⟨q0, q1, q2, q3, q4, q5⟩ := HX2.out.cells
    clear hb HB1 HT1 HBX HX1
    go_wp2_with fail
    focus
      have i0 : 0 ≤ at_ := by assumption
      have i1 : at_ < (s.size : Int) := by assumption
      have i2 : at_ ≤ (s.size : Int) := by omega
      have i3 : (at_.toNat : Int) ≤ (s.size : Int) := by omega
      have HI := Lib.hid (show ∃ h : at_.toNat < s.size, ((s[at_.toNat].toNat : Int) == 32) = true from ⟨by omega, by assumption⟩)
      go_quiet (fail)
      go_wp2_with fail
      refine (parse_same s _ (amid_size s _ HS.out) (by obtain ⟨h, h2⟩ := HI.out; exact amid_at s at_ h h2) HP.out _).mono ?_
    all_goals try (refine (parse_same s _ (around_size s HS.out) (around s) HP.out _).mono ?_)
    all_goals
      rintro e w3 ⟨rfl, hb⟩
      have hb2 : Below w2.heap.size w2 w3 := by first | exact hb | exact (below_drewN' (Below.refl _ _) _).trans hb
      have HB3 := Lib.hid (btrans HB2.out hb2)
      have HX3 := Lib.hid (HX2.out.below hb2)
      clear q0 q1 q2 q3 q4 q5 hb hb2
      obtain ⟨q0, q1, q2, q3, q4, q5⟩ := HX3.out.cells
      have hlt : w1.heap.size < w3.heap.size := (Array.getElem?_eq_some_iff.1 HX3.out).1
      simp only [opV]
      go_wp2_with fail
      go_ret
      exact ⟨by simp, HB3.out.alloc HB3.out.size _⟩
  · have hne : ((d : Int) == 4) = false := by rw [beq_eq_false_iff_ne]; omega
    have hd0 : (0 : Int) ≤ (d : Int) := by omega
    have hd9 : (d : Int) ≤ 9 := by omega
    clear hd hd4
    go_enter Tryd.func4, Tryd.ntmps4
    go_wp2_with fail
    refine (parse_same s s (by have := HS.out; omega) rfl HP.out _).mono ?_
    rintro e w1 ⟨rfl, hb⟩
    have HB1 := Lib.hid hb
    have HT1 := Lib.hid ((HT.out.stays hb)); clear hb
    simp only [opV]
    have HBX := Lib.hid ((Below.refl w1.heap.size w1).alloc (Nat.le_refl _) (.cells #[.int .i64 (d : Nat), .int .i64 vo, .int .i64 de, .int .i64 bl, .int .i64 nn, .string tx] 27))
    have hx1 : BX (w1.alloc (.cells #[.int .i64 (d : Nat), .int .i64 vo, .int .i64 de, .int .i64 bl, .int .i64 nn, .string tx] 27)) w1.heap.size (d : Nat) vo de bl nn tx := World.alloc_heap_new w1 _
    have HX1 := Lib.hid hx1; clear hx1
    go_wp2_with fail
    refine (fixed_any _ (HT1.out.stays HBX.out)).mono ?_
    rintro e w2 ⟨rfl, hb⟩
    have HB2 := Lib.hid (btrans HB1.out (btrans HBX.out hb))
    have HX2 := Lib.hid (HX1.out.below hb)
    obtain ⟨q0, q1, q2, q3, q4, q5⟩ := HX2.out.cells
    clear hb HB1 HT1 HBX HX1
    go_wp2_with fail
    focus
      have i0 : 0 ≤ at_ := by assumption
      have i1 : at_ < (s.size : Int) := by assumption
      have i2 : at_ ≤ (s.size : Int) := by omega
      have i3 : (at_.toNat : Int) ≤ (s.size : Int) := by omega
      have HI := Lib.hid (show ∃ h : at_.toNat < s.size, ((s[at_.toNat].toNat : Int) == 32) = true from ⟨by omega, by assumption⟩)
      go_quiet (fail)
      go_wp2_with fail
      refine (parse_same s _ (amid_size s _ HS.out) (by obtain ⟨h, h2⟩ := HI.out; exact amid_at s at_ h h2) HP.out _).mono ?_
    all_goals try (refine (parse_same s _ (around_size s HS.out) (around s) HP.out _).mono ?_)
    all_goals
      rintro e w3 ⟨rfl, hb⟩
      have hb2 : Below w2.heap.size w2 w3 := by first | exact hb | exact (below_drewN' (Below.refl _ _) _).trans hb
      have HB3 := Lib.hid (btrans HB2.out hb2)
      have HX3 := Lib.hid (HX2.out.below hb2)
      clear q0 q1 q2 q3 q4 q5 hb hb2
      obtain ⟨q0, q1, q2, q3, q4, q5⟩ := HX3.out.cells
      have hlt : w1.heap.size < w3.heap.size := (Array.getElem?_eq_some_iff.1 HX3.out).1
      simp only [opV]
      go_wp2_with fail
      go_ret
      exact ⟨by simp, HB3.out.alloc HB3.out.size _⟩

theorem walk (s : ByteArray) (at_ : Int) (_hs : s.size ≤ maxLen) (_h0 : -9223372036854775808 ≤ at_) (_h1 : at_ ≤ 9223372036854775807) (w : World) (hT : Tabs w) (hs2 : s.size ≤ 1048576) :
    Calls Tryd.prog 4 #[.string s, .int .i64 at_] w fun e w' => e = .returned (.bool true) ∧ Below w.heap.size w w' := by
  by_cases h : 1000 < s.size
  · exact walk_far s at_ h hs2 w hT
  · cases hp : parseL (wordsL s.data.toList) with
    | none => exact walk_none s at_ (by omega) hp w hT
    | some o => exact walk_some s at_ (by omega) o hp w hT

set_option maxRecDepth 100000 in
theorem contract (H : Type) (enc : TypeId × Value → H) (W : World) (base : Nat) (args : Array Value) (ds gs : List (DataW H)) (before : List MemPlace)
    (hval : ∀ (j : Nat) t v, Tryd.f4.params[j]? = some t → args[j]? = some v → Value.okWide Tryd.prog W .any base t v)
    (hW : DataW.Whole enc Tryd.prog Tryd.f4.params.toList Rows.requestBlanksSpec.vars false W args.toList ds gs before) (hsm : Rows.uptoSmall H (ds ++ gs) = true) (hL : laidMetH Tryd.prog Rows.requestBlanksUptoRow.laid W) :
    Calls Tryd.prog 4 args W fun e W' => ∃ v, e = .returned v ∧ Rows.requestBlanksSpec.post enc Tryd.prog Tryd.f4 false true false false W args v W' := by
  have hW' := hW
  obtain ⟨p, q, hA0, hV, rfl, hfz, hnd⟩ := hW
  have hA : DataW.TrodAll enc Tryd.prog W 0 (fun _ => true) true Tryd.f4.params.toList args.toList ds p := hA0
  rw [Tryd.params4] at hA hval
  obtain ⟨v0, vs0, d0, ds0, p0, q0, hargs, rfl, rfl, h0, r0⟩ := trodAll_cons hA
  obtain ⟨v1, vs1, d1, ds1, p1, q1, rfl, rfl, rfl, h1, r1⟩ := trodAll_cons r0
  obtain ⟨rfl, rfl, rfl⟩ := trodAll_nil r1
  obtain rfl : args = #[v0, v1] := by cases args; simp_all
  obtain ⟨rfl, rfl⟩ := trodVars_none hV
  obtain ⟨a0, rfl, rfl, rfl, wa0⟩ := open_string Tryd.underlying9 (hval 0 9 v0 rfl rfl) h0
  obtain ⟨a1, rfl, rfl, rfl, wa1⟩ := open_int Tryd.underlying3 (hval 1 3 v1 rfl rfl) h1
  clear hA0
  simp only [List.append_nil] at hW'
  refine (walk a0 a1 wa0 (int_bounds wa1).1 (int_bounds wa1).2 W (tabs_met hL) (upto_hyp hsm)).mono fun e W' ⟨he, hg⟩ => ?_
  subst he
  exact ⟨_, rfl, law_post laidOut (by rw [Tryd.params4]; intro t ht; simp only [List.mem_cons, List.not_mem_nil, or_false] at ht; rcases ht with rfl | rfl <;> exact ⟨by kernel_rfl, of_decide_eq_true (by kernel_rfl)⟩) rfl (show Tryd.f4.resultTypes = #[4] by kernel_rfl) Tryd.underlying4 hW' hg rfl⟩
theorem reads (os : Os) {H : Type} (enc : TypeId × Value → H) : ∃ places, DataW.whole enc Tryd.prog ((laidWorld os).forCall (fun _ _ => 0) ⟨#[], (#[.string ⟨#[]⟩, .int .i64 0] : Array Value), []⟩).memory Tryd.f4.params.toList Rows.requestBlanksSpec.vars false (#[.string ⟨#[]⟩, .int .i64 0] : Array Value).toList 8 = some ([.lit (.string []), .lit (.int .i64 0)], [], places) :=
  ⟨[], by kernel_rfl⟩

set_option maxRecDepth 100000 in
theorem lifted (os : Os) (started : os.Started) (H : Type) (enc : TypeId × Value → H) (F : Stop.Interp) :
    ReturnsInHanded {} Tryd.checked os 4 .any ((Rows.OpenSpec.upto Rows.requestBlanksSpec).preRow enc Tryd.prog Tryd.f4 Rows.requestBlanksUptoRow.domain false Rows.requestBlanksUptoRow.laid) (((Rows.OpenSpec.upto Rows.requestBlanksSpec).at F).post enc Tryd.prog Tryd.f4 false true false false) := by
  obtain ⟨places, hx⟩ := reads os enc
  refine returnsInHanded_of_row (C := Tryd.checked) (s := Rows.OpenSpec.upto Rows.requestBlanksSpec) own started (by kernel_rfl) Tryd.func4
    (witness_row_at (enc := enc) (C := Tryd.checked) false (laidWorld os) #[.string ⟨#[]⟩, .int .i64 0] rfl (by kernel_rfl) (by kernel_rfl) (by kernel_rfl)
      (OpenSpec.preRow_of_cond 8 hx (by kernel_rfl) (fun k hk => by cases hk; rfl) (by kernel_rfl) (laid_met os _))) ?_
  intro W base args ds gs before hval hW _ hc _ hL _ _
  exact contract H enc W base args ds gs before hval hW (hc _ rfl) hL

theorem said : Rows.RequestBlanksUptoSaid :=
  OpenClaim.holds_of_cond 4 Tryd.f4 rfl rfl rfl rfl rfl rfl rfl ⟨rfl, rfl, rfl, rfl, rfl⟩ rfl rfl rfl rfl rfl (by kernel_rfl) Tryd.func4 (by kernel_rfl)
    (of_decide_eq_true (by kernel_rfl)) (by unfold Func.isWrapper; first | (rw [if_pos (by decide +kernel)]; kernel_rfl) | (rw [if_neg (by decide +kernel)]; exact ⟨rfl, rfl⟩))
    (fun os started H enc _ F => by rw [OpenClaim.pre_eq_preRow]; exact lifted os started H enc F)

theorem plain (f : FuncId) (fn : Func) (hf : Tryd.pinned.checked.prog.funcNamed Rows.requestBlanksUptoRow.func = some f) (hfn : Tryd.pinned.checked.prog.funcs[f]? = some fn) :
    false = Tryd.pinned.checked.prog.looks [] ∧ ∀ (j : Nat) t, fn.params[j]? = some t → Tryd.pinned.checked.prog.wantsStandIn t = false := by
  obtain rfl : f = 4 := Option.some.inj ((show Tryd.prog.funcNamed Rows.requestBlanksUptoRow.func = some 4 by kernel_rfl).symm.trans hf) |>.symm
  obtain rfl : fn = Tryd.f4 := (Option.some.inj (Tryd.func4.symm.trans hfn)).symm
  refine ⟨by kernel_rfl, fun j t ht => ?_⟩
  rw [Tryd.params4] at ht
  have hm := Array.mem_of_getElem? ht
  simp only [List.mem_toArray, List.mem_cons, List.not_mem_nil, or_false] at hm
  rcases hm with rfl | rfl
  · exact (show Tryd.prog.wantsStandIn 9 = false by kernel_rfl)
  · exact (show Tryd.prog.wantsStandIn 3 = false by kernel_rfl)

theorem card : Rows.RequestBlanksUptoCardSaid :=
  Claim7.holds_tied_plain_at .later [] _ _ _ _ said (fun _ h => by cases h) (by kernel_rfl) (fun _ h => by cases h) requestBlanksUpto_row_tie rfl ⟨rfl, rfl⟩ (by kernel_rfl) rfl plain (by kernel_rfl)
end Go.Proofs.YtolegljmaacabaaDoor.requestBlanks
