/- The walks of request's closures that set a field; what the table of shapes tells of a word. -/
import Derived.Test.YtolegljmaacabaaDoorReqE
namespace Go.Proofs.YtolegljmaacabaaDoor
open Go.RowKit

def shapeOf (k : List UInt8) : Option (Nat × List WKind) := (shapeRows.find? fun r => r.1 == k).map fun r => r.2

theorem zeroShape (w : World) : (zeroValue 44).run Tryd.prog w = .ok (shape0 0) w := by kernel_rfl

/-- what the table says of a word -/
def Tells (lo : Nat) (W : World) (sh : Option (Nat × List WKind)) (v : Value) (ok : Bool) : Prop :=
  match sh with
  | none => ok = false ∧ v = shape0 0
  | some (d, ks) => ok = true ∧ ∃ A, v = .agg #[.int .i64 d, .slice A ks.length ks.length] ∧ ∀ i x, ks[i]? = some x → ∃ b, A = some ⟨b, 0, none⟩ ∧ b < W.heap.size ∧ lo ≤ b ∧ W.cell? ⟨b, i, none⟩ = some (kindV lo x)

theorem lit_ne {a b : List UInt8} (h : a ≠ b) : Lit.string a ≠ .string b := fun e => h (by injection e)
theorem keyLit {a : List UInt8} : WideAt.IsKeyLit (.string a) := trivial
def layD (T : List (List UInt8 × Value)) (D : DataW Value) : DataW Value := T.foldl (fun D p => D.put (.string p.1) (.held p.2)) D
theorem layD_miss (z : DataW Value) {k : List UInt8} : ∀ (T : List (List UInt8 × Value)) (D : DataW Value), k ∉ T.map (fun p => p.1) → (layD T D).atKey (.string k) z = D.atKey (.string k) z ∧ Maps.has (layD T D) (.string k) = Maps.has D (.string k)
  | [], _, _ => ⟨rfl, rfl⟩
  | p :: T, D, h => by
    have h1 : k ≠ p.1 := fun e => h (by simp [e])
    have h2 : k ∉ T.map fun p => p.1 := fun e => h (by simp only [List.map_cons, List.mem_cons]; exact .inr e)
    obtain ⟨a, b⟩ := layD_miss z T (D.put (.string p.1) (.held p.2)) h2
    exact ⟨a.trans (Maps.atKey_put_other (lit_ne h1) _ _), b.trans (Maps.has_put_other (lit_ne h1) _)⟩
theorem layD_hit (z : DataW Value) {k : List UInt8} {v : Value} : ∀ (T : List (List UInt8 × Value)) (es : List (Lit × DataW Value)), (T.map fun p => p.1).Nodup → (k, v) ∈ T → (layD T (.map es)).atKey (.string k) z = .held v ∧ Maps.has (layD T (.map es)) (.string k) = true
  | [], _, _, h => by cases h
  | p :: T, es, hn, h => by
    rw [List.map_cons, List.nodup_cons] at hn
    show (layD T ((DataW.map es).put (.string p.1) (.held p.2))).atKey _ _ = _ ∧ Maps.has (layD T ((DataW.map es).put (.string p.1) (.held p.2))) _ = _
    rcases List.mem_cons.1 h with h | h
    · subst h
      obtain ⟨a, b⟩ := layD_miss z T ((DataW.map es).put (.string k) (.held v)) hn.1
      exact ⟨a.trans (Maps.atKey_put_same ⟨es, rfl⟩ keyLit _ _), b.trans (Maps.has_put_same ⟨es, rfl⟩ keyLit _)⟩
    · exact layD_hit z T _ hn.2 h
set_option maxHeartbeats 1000000 in
theorem look_any {w W : World} (h : Sh w 10 8 W) (s : ByteArray) (hs : s.size ≤ maxLen) :
    ∃ v ok, (Instr.lookup 46 (.map (some (w.heap.size + 13))) (.string s) true).run Tryd.prog W = .ok (.tuple #[v, .bool ok]) W ∧ (∀ o, (Instr.lookup 46 (.map (some (w.heap.size + 13))) (.string s) true).run Tryd.prog (W.alloc o) = .ok (.tuple #[v, .bool ok]) (W.alloc o)) ∧ Tells w.heap.size W (shapeOf s.data.toList) v ok := by
  obtain ⟨v, ps, hrun, hv⟩ := h.map.look_ok (Maps.string_keyed Tryd.underlying9) Tryd.underlying46 (zeroShape W) (zd := .held (shape0 0)) (zp := []) rfl (WideMaps.keyOf_string_mk Tryd.underlying9 hs)
  have hall : ∀ o, (Instr.lookup 46 (.map (some (w.heap.size + 13))) (.string s) true).run Tryd.prog (W.alloc o) = .ok (.tuple #[v, .bool (Maps.has (shapeDat w.heap.size 10) (.string s.data.toList))]) (W.alloc o) := by
    intro o
    obtain ⟨v2, ps2, hrun2, hv2⟩ := (h.map.alloc o).look_ok (Maps.string_keyed Tryd.underlying9) Tryd.underlying46 (zeroShape _) (zd := .held (shape0 0)) (zp := []) rfl (WideMaps.keyOf_string_mk Tryd.underlying9 hs)
    have e : v2 = v := by
      have a := hv; have b := hv2
      simp only [shapeR, Option.some.injEq, Prod.mk.injEq] at a b
      exact DataW.held.inj (b.1.trans a.1.symm)
    rw [hrun2, e]
  refine ⟨v, _, hrun, hall, ?_⟩
  clear hall
  have hv' : (DataW.held v : DataW Value) = (shapeDat w.heap.size 10).atKey (.string s.data.toList) (.held (shape0 0)) := by
    have := hv; simp only [shapeR, Option.some.injEq, Prod.mk.injEq] at this; exact this.1
  clear hrun hv
  generalize s.data.toList = k at *
  by_cases hk : k ∈ shapeRows.map fun r => r.1
  · simp only [shapeRows, List.map_cons, List.map_nil, List.mem_cons, List.not_mem_nil, or_false] at hk
    have row : ∀ (i : Nat) (ks : List WKind), i < 8 → shapeLay[i]? = some ks → ∀ (q : Nat) (x : WKind), ks[q]? = some x → ∃ b, (some ⟨w.heap.size + 14 + i, 0, none⟩ : Option Addr) = some ⟨b, 0, none⟩ ∧ b < W.heap.size ∧ w.heap.size ≤ b ∧ W.cell? ⟨b, q, none⟩ = some (kindV w.heap.size x) :=
      fun i ks hi hks q x hx => ⟨_, rfl, by have := h.size; omega, by omega, h.rows i hi ks hks q x hx⟩
    have hit : ∀ (key : List UInt8) (u : Value), (key, u) ∈ shapeTab w.heap.size → (shapeDat w.heap.size 10).atKey (.string key) (.held (shape0 0)) = .held u ∧ Maps.has (shapeDat w.heap.size 10) (.string key) = true := fun key u hm =>
      layD_hit _ (shapeTab w.heap.size) [] (by simp only [shapeTab, List.map_cons, List.map_nil]; decide) hm
    have got : ∀ {key : List UInt8} {u : Value}, (key, u) ∈ shapeTab w.heap.size → DataW.held v = (shapeDat w.heap.size 10).atKey (.string key) (.held (shape0 0)) → v = u ∧ Maps.has (shapeDat w.heap.size 10) (.string key) = true := fun hm e =>
      ⟨DataW.held.inj (e.trans (hit _ _ hm).1), (hit _ _ hm).2⟩
    rcases hk with rfl | rfl | rfl | rfl | rfl | rfl | rfl | rfl | rfl | rfl
    · obtain ⟨h1, h2⟩ := got (.head _) hv'
      exact ⟨h2, _, h1, row 0 _ (by omega) rfl⟩
    · obtain ⟨h1, h2⟩ := got (.tail _ (.head _)) hv'
      exact ⟨h2, _, h1, row 1 _ (by omega) rfl⟩
    · obtain ⟨h1, h2⟩ := got (.tail _ (.tail _ (.head _))) hv'
      exact ⟨h2, _, h1, row 2 _ (by omega) rfl⟩
    · obtain ⟨h1, h2⟩ := got (.tail _ (.tail _ (.tail _ (.head _)))) hv'
      exact ⟨h2, _, h1, row 3 _ (by omega) rfl⟩
    · obtain ⟨h1, h2⟩ := got (.tail _ (.tail _ (.tail _ (.tail _ (.head _))))) hv'
      exact ⟨h2, _, h1, row 4 _ (by omega) rfl⟩
    · obtain ⟨h1, h2⟩ := got (.tail _ (.tail _ (.tail _ (.tail _ (.tail _ (.head _)))))) hv'
      exact ⟨h2, _, h1, row 5 _ (by omega) rfl⟩
    · obtain ⟨h1, h2⟩ := got (.tail _ (.tail _ (.tail _ (.tail _ (.tail _ (.tail _ (.head _))))))) hv'
      exact ⟨h2, _, h1, row 6 _ (by omega) rfl⟩
    · obtain ⟨h1, h2⟩ := got (.tail _ (.tail _ (.tail _ (.tail _ (.tail _ (.tail _ (.tail _ (.head _)))))))) hv'
      exact ⟨h2, _, h1, (fun i x hx => by cases hx)⟩
    · obtain ⟨h1, h2⟩ := got (.tail _ (.tail _ (.tail _ (.tail _ (.tail _ (.tail _ (.tail _ (.tail _ (.head _))))))))) hv'
      exact ⟨h2, _, h1, (fun i x hx => by cases hx)⟩
    · obtain ⟨h1, h2⟩ := got (.tail _ (.tail _ (.tail _ (.tail _ (.tail _ (.tail _ (.tail _ (.tail _ (.tail _ (.head _)))))))))) hv'
      exact ⟨h2, _, h1, row 7 _ (by omega) rfl⟩
  · have hsh : shapeOf k = none := by
      unfold shapeOf
      rw [Option.map_eq_none_iff, List.find?_eq_none]
      intro r hr e
      exact hk (List.mem_map.2 ⟨r, hr, by simpa using e⟩)
    rw [hsh]
    have hm := layD_miss (.held (shape0 0)) (k := k) (shapeTab w.heap.size) (.map []) (fun hm => hk (by simpa [shapeTab, shapeRows] using hm))
    exact ⟨hm.2, DataW.held.inj (hv'.trans hm.1)⟩

/-- what is asked -/
structure OpD where
  act : Int
  vol : Int
  dest : Int
  block : Int
  n : Int
  text : ByteArray
def OpD.cells (o : OpD) : List Value := [.int .i64 o.act, .int .i64 o.vol, .int .i64 o.dest, .int .i64 o.block, .int .i64 o.n, .string o.text]
def OpD.zero : OpD := ⟨0, 0, 0, 0, 0, ⟨#[]⟩⟩
def OpD.agg (o : OpD) : Value := .agg #[.int .i64 o.act, .int .i64 o.vol, .int .i64 o.dest, .int .i64 o.block, .int .i64 o.n, .string o.text]
/-- the block b holds it -/
def OpAt (W : World) (b : Nat) (o : OpD) : Prop := W.heap[b]? = some (.cells o.cells.toArray 27 (0, 0))

/-- a word sets its field -/
def applyK (k : WKind) (o : OpD) (s : List UInt8) : OpD × Bool :=
  match k with
  | .vol => (if numB s then { o with vol := (numV s : Nat) } else o, numB s)
  | .dest => (if numB s then { o with dest := (numV s : Nat) } else o, numB s)
  | .block => (if numB s then { o with block := (numV s : Nat) } else o, numB s)
  | .many => (if numB s then { o with n := (numV s : Nat) } else o, numB s)
  | .fill => ({ o with text := ⟨((fillL s).getD []).toArray⟩ }, (fillL s).isSome)

theorem OpAt.set {W : World} {b : Nat} {o o' : OpD} (h : OpAt W b o) (i : Nat) (v : Value) (he : o'.cells = o.cells.set i v) : OpAt (W.setCell ⟨b, i, none⟩ v) b o' := by
  obtain ⟨hlt, hk⟩ := Array.getElem?_eq_some_iff.1 h
  unfold OpAt
  show (W.heap.modify b _)[b]? = _
  rw [Array.getElem?_eq_getElem (by rw [Array.size_modify]; exact hlt), Array.getElem_modify_self, hk, he]
  simp

theorem OpAt.cell {W : World} {b : Nat} {o : OpD} (h : OpAt W b o) (i : Nat) (v : Value) (hv : o.cells[i]? = some v) : W.cell? ⟨b, i, none⟩ = some v := by
  simp [World.cell?, show W.heap[b]? = _ from h, hv]
theorem OpAt.free {W : World} {b : Nat} {o : OpD} (h : OpAt W b o) (i : Nat) (v : Value) (hv : o.cells[i]? = some v) : W.frozen? ⟨b, i, none⟩ = false := by
  have hlt : i < o.cells.length := (List.getElem?_eq_some_iff.1 hv).1
  simp [World.frozen?, show W.heap[b]? = _ from h]
theorem grown_set (w : World) (b i : Nat) (u : Value) : w.grownBy (w.setCell ⟨b, i, none⟩ u) (some b) :=
  ⟨rfl, rfl, rfl, by simp, fun k _ hk => Below.heap_setCell _ _ _ k (fun e => hk (by rw [e]))⟩

/-- behind a word: the Op as the word says, and nothing else that was there has turned -/
def SetEnd (k : WKind) (b : Nat) (o : OpD) (s : ByteArray) (W : World) (e : Ending) (W' : World) : Prop :=
  e = .returned (.bool (applyK k o s.data.toList).2) ∧ OpAt W' b (applyK k o s.data.toList).1 ∧ W.grownBy W' (some b)

theorem set1_any (b : Nat) (n : Int) (W : World) (o : OpD) (h : OpAt W b o) : Calls Tryd.prog 30 #[.pointer (some ⟨b, 0, none⟩), .int .i64 n] W fun e W' => e = .returned (.tuple #[]) ∧ W' = W.setCell ⟨b, 1, none⟩ (.int .i64 n) := by
  have hc := h.cell 1 _ rfl
  have hf := h.free 1 _ rfl
  clear h
  go_enter Tryd.func30, Tryd.ntmps30
  go_wp2
  go_end0
  exact ⟨rfl, rfl⟩

theorem set2_any (b : Nat) (n : Int) (W : World) (o : OpD) (h : OpAt W b o) : Calls Tryd.prog 31 #[.pointer (some ⟨b, 0, none⟩), .int .i64 n] W fun e W' => e = .returned (.tuple #[]) ∧ W' = W.setCell ⟨b, 2, none⟩ (.int .i64 n) := by
  have hc := h.cell 2 _ rfl
  have hf := h.free 2 _ rfl
  clear h
  go_enter Tryd.func31, Tryd.ntmps31
  go_wp2
  go_end0
  exact ⟨rfl, rfl⟩

theorem set3_any (b : Nat) (n : Int) (W : World) (o : OpD) (h : OpAt W b o) : Calls Tryd.prog 32 #[.pointer (some ⟨b, 0, none⟩), .int .i64 n] W fun e W' => e = .returned (.tuple #[]) ∧ W' = W.setCell ⟨b, 3, none⟩ (.int .i64 n) := by
  have hc := h.cell 3 _ rfl
  have hf := h.free 3 _ rfl
  clear h
  go_enter Tryd.func32, Tryd.ntmps32
  go_wp2
  go_end0
  exact ⟨rfl, rfl⟩

theorem set4_any (b : Nat) (n : Int) (W : World) (o : OpD) (h : OpAt W b o) : Calls Tryd.prog 33 #[.pointer (some ⟨b, 0, none⟩), .int .i64 n] W fun e W' => e = .returned (.tuple #[]) ∧ W' = W.setCell ⟨b, 4, none⟩ (.int .i64 n) := by
  have hc := h.cell 4 _ rfl
  have hf := h.free 4 _ rfl
  clear h
  go_enter Tryd.func33, Tryd.ntmps33
  go_wp2
  go_end0
  exact ⟨rfl, rfl⟩

set_option maxHeartbeats 400000 in
theorem word1_any (b bx : Nat) (s : ByteArray) (hs : s.size ≤ maxLen) (W : World) (o : OpD) (h : OpAt W b o) (hb : W.cell? ⟨bx, 0, none⟩ = some (.func (.func 30) #[] #[])) :
    Calls Tryd.prog 46 #[.pointer (some ⟨b, 0, none⟩), .string s, .pointer (some ⟨bx, 0, none⟩)] W (SetEnd .vol b o s W) := by
  have hn := number_any s hs W
  have hset := set1_any b (numV s.data.toList : Nat) W o h
  have hfin : numB s.data.toList = true → SetEnd .vol b o s W (.returned (.bool true)) (W.setCell ⟨b, 1, none⟩ (.int .i64 (numV s.data.toList : Nat))) := by
    intro e
    unfold SetEnd applyK; rw [e]
    exact ⟨rfl, h.set (o' := { o with vol := (numV s.data.toList : Nat) }) 1 _ rfl, grown_set _ _ _ _⟩
  have hno : numB s.data.toList = false → SetEnd .vol b o s W (.returned (.bool false)) W := by
    intro e
    unfold SetEnd applyK; rw [e]
    exact ⟨rfl, h, ⟨rfl, rfl, rfl, Nat.le_refl _, fun _ _ _ => rfl⟩⟩
  unfold NEnd at hn
  cases hc : numB s.data.toList
  · rw [hc] at hn
    have HN := Lib.hid hn; have HF := Lib.hid (hno hc)
    clear hn hset hfin hno hc h
    go_enter Tryd.func46, Tryd.ntmps46
    go_wp2_with fail
    refine HN.out.mono ?_
    rintro e w' ⟨rfl, rfl⟩
    go_wp2_with fail
    go_ret
    exact HF.out
  · rw [hc] at hn
    have HN := Lib.hid hn; have HF := Lib.hid (hfin hc); have HS := Lib.hid hset
    clear hn hset hfin hno hc h
    generalize numV s.data.toList = n at *
    go_enter Tryd.func46, Tryd.ntmps46
    go_wp2_with fail
    refine HN.out.mono ?_
    rintro e w' ⟨rfl, rfl⟩
    go_wp2_with fail
    refine HS.out.mono ?_
    rintro e w' ⟨rfl, rfl⟩
    go_wp2_with fail
    go_ret
    exact HF.out

set_option maxHeartbeats 400000 in
theorem word2_any (b bx : Nat) (s : ByteArray) (hs : s.size ≤ maxLen) (W : World) (o : OpD) (h : OpAt W b o) (hb : W.cell? ⟨bx, 0, none⟩ = some (.func (.func 31) #[] #[])) :
    Calls Tryd.prog 46 #[.pointer (some ⟨b, 0, none⟩), .string s, .pointer (some ⟨bx, 0, none⟩)] W (SetEnd .dest b o s W) := by
  have hn := number_any s hs W
  have hset := set2_any b (numV s.data.toList : Nat) W o h
  have hfin : numB s.data.toList = true → SetEnd .dest b o s W (.returned (.bool true)) (W.setCell ⟨b, 2, none⟩ (.int .i64 (numV s.data.toList : Nat))) := by
    intro e
    unfold SetEnd applyK; rw [e]
    exact ⟨rfl, h.set (o' := { o with dest := (numV s.data.toList : Nat) }) 2 _ rfl, grown_set _ _ _ _⟩
  have hno : numB s.data.toList = false → SetEnd .dest b o s W (.returned (.bool false)) W := by
    intro e
    unfold SetEnd applyK; rw [e]
    exact ⟨rfl, h, ⟨rfl, rfl, rfl, Nat.le_refl _, fun _ _ _ => rfl⟩⟩
  unfold NEnd at hn
  cases hc : numB s.data.toList
  · rw [hc] at hn
    have HN := Lib.hid hn; have HF := Lib.hid (hno hc)
    clear hn hset hfin hno hc h
    go_enter Tryd.func46, Tryd.ntmps46
    go_wp2_with fail
    refine HN.out.mono ?_
    rintro e w' ⟨rfl, rfl⟩
    go_wp2_with fail
    go_ret
    exact HF.out
  · rw [hc] at hn
    have HN := Lib.hid hn; have HF := Lib.hid (hfin hc); have HS := Lib.hid hset
    clear hn hset hfin hno hc h
    generalize numV s.data.toList = n at *
    go_enter Tryd.func46, Tryd.ntmps46
    go_wp2_with fail
    refine HN.out.mono ?_
    rintro e w' ⟨rfl, rfl⟩
    go_wp2_with fail
    refine HS.out.mono ?_
    rintro e w' ⟨rfl, rfl⟩
    go_wp2_with fail
    go_ret
    exact HF.out

set_option maxHeartbeats 400000 in
theorem word3_any (b bx : Nat) (s : ByteArray) (hs : s.size ≤ maxLen) (W : World) (o : OpD) (h : OpAt W b o) (hb : W.cell? ⟨bx, 0, none⟩ = some (.func (.func 32) #[] #[])) :
    Calls Tryd.prog 46 #[.pointer (some ⟨b, 0, none⟩), .string s, .pointer (some ⟨bx, 0, none⟩)] W (SetEnd .block b o s W) := by
  have hn := number_any s hs W
  have hset := set3_any b (numV s.data.toList : Nat) W o h
  have hfin : numB s.data.toList = true → SetEnd .block b o s W (.returned (.bool true)) (W.setCell ⟨b, 3, none⟩ (.int .i64 (numV s.data.toList : Nat))) := by
    intro e
    unfold SetEnd applyK; rw [e]
    exact ⟨rfl, h.set (o' := { o with block := (numV s.data.toList : Nat) }) 3 _ rfl, grown_set _ _ _ _⟩
  have hno : numB s.data.toList = false → SetEnd .block b o s W (.returned (.bool false)) W := by
    intro e
    unfold SetEnd applyK; rw [e]
    exact ⟨rfl, h, ⟨rfl, rfl, rfl, Nat.le_refl _, fun _ _ _ => rfl⟩⟩
  unfold NEnd at hn
  cases hc : numB s.data.toList
  · rw [hc] at hn
    have HN := Lib.hid hn; have HF := Lib.hid (hno hc)
    clear hn hset hfin hno hc h
    go_enter Tryd.func46, Tryd.ntmps46
    go_wp2_with fail
    refine HN.out.mono ?_
    rintro e w' ⟨rfl, rfl⟩
    go_wp2_with fail
    go_ret
    exact HF.out
  · rw [hc] at hn
    have HN := Lib.hid hn; have HF := Lib.hid (hfin hc); have HS := Lib.hid hset
    clear hn hset hfin hno hc h
    generalize numV s.data.toList = n at *
    go_enter Tryd.func46, Tryd.ntmps46
    go_wp2_with fail
    refine HN.out.mono ?_
    rintro e w' ⟨rfl, rfl⟩
    go_wp2_with fail
    refine HS.out.mono ?_
    rintro e w' ⟨rfl, rfl⟩
    go_wp2_with fail
    go_ret
    exact HF.out

set_option maxHeartbeats 400000 in
theorem word4_any (b bx : Nat) (s : ByteArray) (hs : s.size ≤ maxLen) (W : World) (o : OpD) (h : OpAt W b o) (hb : W.cell? ⟨bx, 0, none⟩ = some (.func (.func 33) #[] #[])) :
    Calls Tryd.prog 46 #[.pointer (some ⟨b, 0, none⟩), .string s, .pointer (some ⟨bx, 0, none⟩)] W (SetEnd .many b o s W) := by
  have hn := number_any s hs W
  have hset := set4_any b (numV s.data.toList : Nat) W o h
  have hfin : numB s.data.toList = true → SetEnd .many b o s W (.returned (.bool true)) (W.setCell ⟨b, 4, none⟩ (.int .i64 (numV s.data.toList : Nat))) := by
    intro e
    unfold SetEnd applyK; rw [e]
    exact ⟨rfl, h.set (o' := { o with n := (numV s.data.toList : Nat) }) 4 _ rfl, grown_set _ _ _ _⟩
  have hno : numB s.data.toList = false → SetEnd .many b o s W (.returned (.bool false)) W := by
    intro e
    unfold SetEnd applyK; rw [e]
    exact ⟨rfl, h, ⟨rfl, rfl, rfl, Nat.le_refl _, fun _ _ _ => rfl⟩⟩
  unfold NEnd at hn
  cases hc : numB s.data.toList
  · rw [hc] at hn
    have HN := Lib.hid hn; have HF := Lib.hid (hno hc)
    clear hn hset hfin hno hc h
    go_enter Tryd.func46, Tryd.ntmps46
    go_wp2_with fail
    refine HN.out.mono ?_
    rintro e w' ⟨rfl, rfl⟩
    go_wp2_with fail
    go_ret
    exact HF.out
  · rw [hc] at hn
    have HN := Lib.hid hn; have HF := Lib.hid (hfin hc); have HS := Lib.hid hset
    clear hn hset hfin hno hc h
    generalize numV s.data.toList = n at *
    go_enter Tryd.func46, Tryd.ntmps46
    go_wp2_with fail
    refine HN.out.mono ?_
    rintro e w' ⟨rfl, rfl⟩
    go_wp2_with fail
    refine HS.out.mono ?_
    rintro e w' ⟨rfl, rfl⟩
    go_wp2_with fail
    go_ret
    exact HF.out

set_option maxHeartbeats 400000 in
theorem word5_any (b : Nat) (s : ByteArray) (hs : s.size ≤ maxLen) (W : World) (o : OpD) (h : OpAt W b o) :
    Calls Tryd.prog 34 #[.pointer (some ⟨b, 0, none⟩), .string s] W (SetEnd .fill b o s W) := by
  have hn := fill_any s hs W
  have hlt : b < W.heap.size := (Array.getElem?_eq_some_iff.1 h).1
  have hst : ∀ W1, Below W.heap.size W W1 → OpAt W1 b o := fun W1 hb => (hb.block b hlt).trans h
  have hfin : ∀ W1, Below W.heap.size W W1 → SetEnd .fill b o s W (.returned (.bool (fillL s.data.toList).isSome)) (W1.setCell ⟨b, 5, none⟩ (.string ⟨((fillL s.data.toList).getD []).toArray⟩)) := by
    intro W1 hb
    have h1 := hst W1 hb
    refine ⟨rfl, h1.set (o' := { o with text := ⟨((fillL s.data.toList).getD []).toArray⟩ }) 5 _ rfl, ?_⟩
    have g1 : W.grownBy W1 (some b) := ⟨hb.os, hb.tape, hb.output, hb.size, fun k hk _ => hb.block k hk⟩
    have g2 := grown_set W1 b 5 (.string ⟨((fillL s.data.toList).getD []).toArray⟩)
    exact ⟨g2.os.trans g1.os, g2.tape.trans g1.tape, g2.output.trans g1.output, Nat.le_trans g1.size g2.size, fun k hk hne => (g2.block k (Nat.lt_of_lt_of_le hk g1.size) hne).trans (g1.block k hk hne)⟩
  have HN := Lib.hid hn; have HF := Lib.hid hfin; have HS := Lib.hid hst
  clear hn hfin hst h
  go_enter Tryd.func34, Tryd.ntmps34
  go_wp2_with fail
  refine HN.out.mono ?_
  rintro e W1 ⟨rfl, hb⟩
  have hc := (HS.out W1 hb).cell 5 _ rfl
  have hf := (HS.out W1 hb).free 5 _ rfl
  have HB := Lib.hid (HF.out W1 hb)
  clear hb
  generalize ((fillL s.data.toList).getD []).toArray = t at *
  generalize (fillL s.data.toList).isSome = ok at *
  go_wp2_with fail
  go_ret
  exact HB.out
end Go.Proofs.YtolegljmaacabaaDoor
