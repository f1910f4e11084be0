/- The walks of request's closures and of its table of shapes. -/
import Derived.Test.YtolegljmaacabaaDoorReqB
import Derived.Laws.EntriesVeiled
import Derived.Maps.OwnSet
import Derived.Maps.Views
import Derived.Outline
import Derived.Deep.Cut
namespace Go.Proofs.YtolegljmaacabaaDoor
open Go.RowKit

theorem makeFunc_run (fn : Fn) (first cap : Array Value) (w : World) : (Instr.makeFunc fn first cap).run Tryd.prog w = .ok (.func fn first cap) w := rfl

abbrev numF (b : Nat) : Value := .func (.func 46) #[] #[.pointer (some ⟨b, 0, none⟩)]
abbrev fillF : Value := .func (.func 34) #[] #[]

theorem numbered_any (f : Nat) (w : World) : Calls Tryd.prog 29 #[.func (.func f) #[] #[]] w fun e w' =>
    e = .returned (.agg #[.func (.func 46) #[] #[.pointer (some ⟨w.heap.size, 0, none⟩)]]) ∧
    w' = (w.alloc (.cells #[.func (.func f) #[] #[]] 66)).alloc (.cells #[.func (.func 46) #[] #[.pointer (some ⟨w.heap.size, 0, none⟩)]] 50) := by
  have hmf := makeFunc_run
  go_enter Tryd.func29, Tryd.ntmps29
  go_wp2_with fail
  exact bodyPost_ret (v := .agg #[.func (.func 46) #[] #[.pointer (some ⟨w.heap.size, 0, none⟩)]]) (by simp [results, Tryd.results29, go_sem]) rfl ⟨rfl, rfl⟩

inductive WKind where
  | vol | dest | block | many | fill
/-- the closure of a kind, where the table's memory begins at lo -/
def kindV (lo : Nat) : WKind → Value
  | .vol => numF lo
  | .dest => numF (lo + 3)
  | .block => numF (lo + 6)
  | .many => numF (lo + 9)
  | .fill => fillF
def shapeRows : List (List UInt8 × Nat × List WKind) :=
  [([99, 114, 101, 97, 116, 101], 0, [.vol, .many]),
   ([100, 101, 108, 101, 116, 101], 1, [.vol]),
   ([114, 101, 115, 105, 122, 101], 2, [.vol, .many]),
   ([114, 101, 97, 100], 3, [.vol, .block]),
   ([119, 114, 105, 116, 101], 4, [.vol, .block, .fill]),
   ([100, 105, 115, 99, 97, 114, 100], 5, [.vol, .block, .many]),
   ([115, 110, 97, 112], 6, [.vol, .dest]),
   ([102, 108, 117, 115, 104], 7, []),
   ([115, 116, 97, 116, 117, 115], 8, []),
   ([99, 111, 109, 112, 97, 99, 116], 9, [.many])]

/-- a row's value is told by itself -/
def shapeR (v : Value) : Option (DataW Value × List MemPlace) := some (.held v, [])
def shapeV (d : Nat) (b : Nat) (n : Nat) : Value := .agg #[.int .i64 d, .slice (some ⟨b, 0, none⟩) n n]
def shape0 (d : Nat) : Value := .agg #[.int .i64 d, .slice none 0 0]

theorem own_update {H : Type} {P : Program} {k : TypeId} {R : Value → Option (DataW H × List MemPlace)} {w : World} {b n : Nat} {D : DataW H} {t e : TypeId} (h : w.ownsMap P k R b n D) (K : Maps.Keyed P k) (ht : P.underlying t = some (.map k e)) (hn : n < maxLen) {key val : Value} {kl : Lit} {d : DataW H} {ps : List MemPlace}
    (hkey : keyOf P k key = some kl) (hv : R val = some (d, ps)) : ∃ w', (Instr.mapUpdate t (.map (some b)) key val).run P w = .ok () w' ∧ w'.ownsMap P k R b (n + 1) (D.put kl d) ∧ w.grownBy w' (some b) ∧ w'.heap.size = w.heap.size := by
  obtain ⟨w', h1, h2, h3⟩ := h.update K ht hn hkey hv
  obtain ⟨es, clock, hb, F, hs, _⟩ := h
  obtain ⟨es', clock', hrun, _⟩ := Maps.fit_store (R' := R) K ht hb F (Nat.lt_of_le_of_lt hs hn) (fun _ _ _ _ hz => hz) hkey hv
  refine ⟨w', h1, h2, h3, ?_⟩
  rw [h1] at hrun
  injection hrun with _ e
  rw [e]; simp [ChangeMaps.setBlock]
theorem wp_insert {H : Type} {P : Program} (w : World) {ops : Array Oper} {rest : List Oper} {o : Oper} {a : Act} {Q : Exit → Act → World → Prop}
    (hg : o.guard = none) (m x v : Operand) (t : TypeId) (hop : o.op = Op.insert t m x v)
    (k e : TypeId) (K : Maps.Keyed P k) (ht : P.underlying t = some (.map k e)) (R : Value → Option (DataW H × List MemPlace)) (b n : Nat) (D : DataW H)
    (hm : a.eval m = .map (some b)) (hown : w.ownsMap P k R b n D) (hn : n < maxLen) (key val : Value) (kl : Lit) (hx : a.eval x = key) (hv : a.eval v = val) (hkey : keyOf P k key = some kl)
    (d : DataW H) (ps : List MemPlace) (hval : R val = some (d, ps))
    (hK : ∀ w', w'.ownsMap P k R b (n + 1) (D.put kl d) → w.grownBy w' (some b) → w'.heap.size = w.heap.size → wpList P ops Q rest (a.put o.dst undef) w') :
    wpList P ops Q (o :: rest) a w := by
  refine wpList_plain hg fun K' hK' => ?_
  obtain ⟨w', hrun, r1, r2, r3⟩ := own_update hown K ht hn hkey hval
  unfold Oper.wp
  simp [execOp, hop, hm, hx, hv, hrun, Result.andThen]
  exact hK' _ _ (hK w' r1 r2 r3)

def shapeTab (lo : Nat) : List (List UInt8 × Value) :=
  [([99, 114, 101, 97, 116, 101], shapeV 0 (lo + 14) 2),
   ([100, 101, 108, 101, 116, 101], shapeV 1 (lo + 15) 1),
   ([114, 101, 115, 105, 122, 101], shapeV 2 (lo + 16) 2),
   ([114, 101, 97, 100], shapeV 3 (lo + 17) 2),
   ([119, 114, 105, 116, 101], shapeV 4 (lo + 18) 3),
   ([100, 105, 115, 99, 97, 114, 100], shapeV 5 (lo + 19) 3),
   ([115, 110, 97, 112], shapeV 6 (lo + 20) 2),
   ([102, 108, 117, 115, 104], shape0 7),
   ([115, 116, 97, 116, 117, 115], shape0 8),
   ([99, 111, 109, 112, 97, 99, 116], shapeV 9 (lo + 21) 1)]
def shapeDat (lo j : Nat) : DataW Value := ((shapeTab lo).take j).foldl (fun D p => D.put (.string p.1) (.held p.2)) (.map [])
def shapeLay : List (List WKind) := [[.vol, .many], [.vol], [.vol, .many], [.vol, .block], [.vol, .block, .fill], [.vol, .block, .many], [.vol, .dest], [.many]]

/-- the table's memory, where j rows are laid, s slices among them -/
structure Sh (w : World) (j s : Nat) (W : World) : Prop where
  map : W.ownsMap Tryd.prog 9 shapeR (w.heap.size + 13) j (shapeDat w.heap.size j)
  size : W.heap.size = w.heap.size + 14 + s
  below : Below w.heap.size w W
  boxes : ∀ (i : Nat) (f : Nat × Nat), [(0, 30), (3, 31), (6, 32), (9, 33)][i]? = some f → W.cell? ⟨w.heap.size + f.1, 0, none⟩ = some (.func (.func f.2) #[] #[])
  vars : W.cell? ⟨w.heap.size + 2, 0, none⟩ = some (numF w.heap.size) ∧ W.cell? ⟨w.heap.size + 5, 0, none⟩ = some (numF (w.heap.size + 3)) ∧ W.cell? ⟨w.heap.size + 8, 0, none⟩ = some (numF (w.heap.size + 6)) ∧ W.cell? ⟨w.heap.size + 11, 0, none⟩ = some (numF (w.heap.size + 9)) ∧ W.cell? ⟨w.heap.size + 12, 0, none⟩ = some fillF
  rows : ∀ i, i < s → ∀ ks, shapeLay[i]? = some ks → ∀ k x, ks[k]? = some x → W.cell? ⟨w.heap.size + 14 + i, k, none⟩ = some (kindV w.heap.size x)
theorem Sh.step {w W w1 : World} {j s : Nat} (h : Sh w j s W) (hs : W.heap.size = w.heap.size + 14 + s) {row : Option Nat} (hg : W.grownBy w1 row) (hr : row = some (w.heap.size + 13))
    (hm : w1.ownsMap Tryd.prog 9 shapeR (w.heap.size + 13) (j + 1) (shapeDat w.heap.size (j + 1))) (h1 : w1.heap.size = W.heap.size) : Sh w (j + 1) s w1 := by
  subst hr
  have cell : ∀ {b o : Nat} {v : Value}, W.cell? ⟨b, o, none⟩ = some v → b ≠ w.heap.size + 13 → w1.cell? ⟨b, o, none⟩ = some v := fun hc hne => hg.cell (a := ⟨_, _, none⟩) hc (by simpa using hne)
  refine ⟨hm, h1.trans hs, h.below.grown hg h.below.size (fun k e => by cases e; omega), fun i f hf => cell (h.boxes i f hf) ?_, ?_, fun i hi ks hks k x hx => cell (h.rows i hi ks hks k x hx) (by omega)⟩
  · match i, hf with
    | 0, hf => cases hf; simp
    | 1, hf => cases hf; simp
    | 2, hf => cases hf; simp
    | 3, hf => cases hf; simp
  · obtain ⟨a, b, c, d, e⟩ := h.vars
    exact ⟨cell a (by omega), cell b (by omega), cell c (by omega), cell d (by omega), cell e (by omega)⟩
theorem Sh.alloc {w W : World} {j s : Nat} (h : Sh w j s W) (ks : List WKind) (hks : shapeLay[s]? = some ks) : Sh w j (s + 1) (W.alloc (.cells (ks.map (kindV w.heap.size)).toArray 50)) := by
  have cell : ∀ {b o : Nat} {v : Value}, W.cell? ⟨b, o, none⟩ = some v → (W.alloc (.cells (ks.map (kindV w.heap.size)).toArray 50)).cell? ⟨b, o, none⟩ = some v := fun hc => (World.grownBy_alloc W _ none).cell (a := ⟨_, _, none⟩) hc (by simp)
  refine ⟨h.map.alloc _, by rw [World.size_alloc, h.size]; omega, h.below.alloc h.below.size _, fun i f hf => cell (h.boxes i f hf), ?_, fun i hi ks' hks' k x hx => ?_⟩
  · obtain ⟨a, b, c, d, e⟩ := h.vars
    exact ⟨cell a, cell b, cell c, cell d, cell e⟩
  · by_cases e : i = s
    · subst e
      rw [hks] at hks'; cases hks'
      rw [World.cell?_alloc_at _ _ _ _ h.size.symm]
      simp [hx]
    · exact cell (h.rows i (by omega) ks' hks' k x hx)

theorem pile_heap (os : List Obj) : ∀ (w : World), (os.foldl World.alloc w).heap = w.heap ++ os.toArray := by
  induction os with
  | nil => intro w; simp
  | cons o os ih =>
    intro w
    rw [List.foldl_cons, ih, show (w.alloc o).heap = w.heap.push o from rfl]
    simp
theorem pile_cell (os : List Obj) (w : World) (i : Nat) (v : Value) (t : TypeId) (h : os[i]? = some (.cells #[v] t (0, 0))) : (os.foldl World.alloc w).cell? ⟨w.heap.size + i, 0, none⟩ = some v := by
  have key : (os.foldl World.alloc w).heap[w.heap.size + i]? = some (.cells #[v] t (0, 0)) := by
    rw [pile_heap, Array.getElem?_append_right (by omega)]
    simpa using h
  simp [World.cell?, key]
theorem pile_below (os : List Obj) : ∀ (w W : World), Below w.heap.size w W → Below w.heap.size w (os.foldl World.alloc W) := by
  induction os with
  | nil => intro w W h; exact h
  | cons o os ih => intro w W h; exact ih w _ (h.alloc h.size o)
def tabL (l : Nat) : List Obj :=
  [.cells #[.func (.func 30) #[] #[]] 66, .cells #[numF l] 50, .cells #[numF l] 50,
   .cells #[.func (.func 31) #[] #[]] 66, .cells #[numF (l + 1 + 1 + 1)] 50, .cells #[numF (l + 1 + 1 + 1)] 50,
   .cells #[.func (.func 32) #[] #[]] 66, .cells #[numF (l + 1 + 1 + 1 + 1 + 1 + 1)] 50, .cells #[numF (l + 1 + 1 + 1 + 1 + 1 + 1)] 50,
   .cells #[.func (.func 33) #[] #[]] 66, .cells #[numF (l + 1 + 1 + 1 + 1 + 1 + 1 + 1 + 1 + 1)] 50, .cells #[numF (l + 1 + 1 + 1 + 1 + 1 + 1 + 1 + 1 + 1)] 50,
   .cells #[fillF] 50]
theorem tab_at (w : World) (i : Nat) (v : Value) (t : TypeId) (h : (tabL w.heap.size)[i]? = some (.cells #[v] t (0, 0))) : (((tabL w.heap.size).foldl World.alloc w).alloc (.map #[] 0)).cell? ⟨w.heap.size + i, 0, none⟩ = some v :=
  (World.grownBy_alloc _ _ none).cell (a := ⟨_, _, none⟩) (pile_cell _ w i v t h) (by simp)
theorem sh_start (w : World) : Sh w 0 0 (((tabL w.heap.size).foldl World.alloc w).alloc (.map #[] 0)) := by
  have hsz : ((tabL w.heap.size).foldl World.alloc w).heap.size = w.heap.size + 13 := by rw [pile_heap]; simp [tabL]
  refine ⟨?_, by rw [World.size_alloc, hsz], (pile_below _ w w (Below.refl _ _)).alloc (by rw [hsz]; omega) _, fun i f hf => ?_, ⟨tab_at w 2 _ _ rfl, tab_at w 5 _ _ rfl, tab_at w 8 _ _ rfl, tab_at w 11 _ _ rfl, tab_at w 12 _ _ rfl⟩, fun i hi => by omega⟩
  · have h := World.ownsMap_made (H := Value) ((tabL w.heap.size).foldl World.alloc w) Tryd.prog 9 shapeR
    rw [hsz] at h
    exact h
  · match i, hf with
    | 0, hf => cases hf; exact tab_at w 0 _ _ rfl
    | 1, hf => cases hf; exact tab_at w 3 _ _ rfl
    | 2, hf => cases hf; exact tab_at w 6 _ _ rfl
    | 3, hf => cases hf; exact tab_at w 9 _ _ rfl

set_option maxRecDepth 100000 in
set_option maxHeartbeats 4000000 in
theorem shapes_any (w : World) : Calls Tryd.prog 18 #[] w fun e w' => e = .returned (.map (some (w.heap.size + 13))) ∧ Sh w 10 8 w' := by
  have hmf := makeFunc_run
  have hmm := @run_makeMap Tryd.prog
  have K := Maps.string_keyed Tryd.underlying9
  go_enter Tryd.func18, Tryd.ntmps18

  go_wp2_with fail
  refine (numbered_any _ _).mono ?_
  rintro e w' ⟨rfl, rfl⟩
  go_wp2_with fail
  refine (numbered_any _ _).mono ?_
  rintro e w' ⟨rfl, rfl⟩
  go_wp2_with fail
  refine (numbered_any _ _).mono ?_
  rintro e w' ⟨rfl, rfl⟩
  go_wp2_with fail
  refine (numbered_any _ _).mono ?_
  rintro e w' ⟨rfl, rfl⟩
  go_upto_region 6 with (fail)
  obtain ⟨W, hW⟩ : ∃ W, W = (((((((((((((w.alloc (Obj.cells #[Value.func (Fn.func 30) #[] #[]] 66)).alloc (Obj.cells #[Value.func (Fn.func 46) #[] #[Value.pointer (some ⟨w.heap.size, 0, none⟩)]] 50)).alloc (Obj.cells #[Value.func (Fn.func 46) #[] #[Value.pointer (some ⟨w.heap.size, 0, none⟩)]] 50)).alloc (Obj.cells #[Value.func (Fn.func 31) #[] #[]] 66)).alloc (Obj.cells #[Value.func (Fn.func 46) #[] #[Value.pointer (some ⟨w.heap.size + 1 + 1 + 1, 0, none⟩)]] 50)).alloc (Obj.cells #[Value.func (Fn.func 46) #[] #[Value.pointer (some ⟨w.heap.size + 1 + 1 + 1, 0, none⟩)]] 50)).alloc (Obj.cells #[Value.func (Fn.func 32) #[] #[]] 66)).alloc (Obj.cells #[Value.func (Fn.func 46) #[] #[Value.pointer (some ⟨w.heap.size + 1 + 1 + 1 + 1 + 1 + 1, 0, none⟩)]] 50)).alloc (Obj.cells #[Value.func (Fn.func 46) #[] #[Value.pointer (some ⟨w.heap.size + 1 + 1 + 1 + 1 + 1 + 1, 0, none⟩)]] 50)).alloc (Obj.cells #[Value.func (Fn.func 33) #[] #[]] 66)).alloc (Obj.cells #[Value.func (Fn.func 46) #[] #[Value.pointer (some ⟨w.heap.size + 1 + 1 + 1 + 1 + 1 + 1 + 1 + 1 + 1, 0, none⟩)]] 50)).alloc (Obj.cells #[Value.func (Fn.func 46) #[] #[Value.pointer (some ⟨w.heap.size + 1 + 1 + 1 + 1 + 1 + 1 + 1 + 1 + 1, 0, none⟩)]] 50)).alloc (Obj.cells #[Value.func (Fn.func 34) #[] #[]] 50)) := ⟨_, rfl⟩
  rw [← hW]
  have S0 : Sh w 0 0 (W.alloc (.map #[] 0)) := by rw [hW]; exact sh_start w
  have z0 : W.heap.size = w.heap.size + 13 := by have := S0.size; rw [World.size_alloc] at this; omega
  clear hW
  have S0a := S0.alloc [.vol, .many] rfl
  have c1 : (W.alloc (.map #[] 0)).cell? ⟨w.heap.size + 1 + 1, 0, none⟩ = some (Value.func (Fn.func 46) #[] #[Value.pointer (some ⟨w.heap.size, 0, none⟩)]) := S0.vars.1
  have c2 : (W.alloc (.map #[] 0)).cell? ⟨w.heap.size + 1 + 1 + 1 + 1 + 1, 0, none⟩ = some (Value.func (Fn.func 46) #[] #[Value.pointer (some ⟨w.heap.size + 1 + 1 + 1, 0, none⟩)]) := S0.vars.2.1
  have c3 : (W.alloc (.map #[] 0)).cell? ⟨w.heap.size + 1 + 1 + 1 + 1 + 1 + 1 + 1 + 1, 0, none⟩ = some (Value.func (Fn.func 46) #[] #[Value.pointer (some ⟨w.heap.size + 1 + 1 + 1 + 1 + 1 + 1, 0, none⟩)]) := S0.vars.2.2.1
  have c4 : (W.alloc (.map #[] 0)).cell? ⟨w.heap.size + 1 + 1 + 1 + 1 + 1 + 1 + 1 + 1 + 1 + 1 + 1, 0, none⟩ = some (Value.func (Fn.func 46) #[] #[Value.pointer (some ⟨w.heap.size + 1 + 1 + 1 + 1 + 1 + 1 + 1 + 1 + 1, 0, none⟩)]) := S0.vars.2.2.2.1
  have c5 : (W.alloc (.map #[] 0)).cell? ⟨w.heap.size + 1 + 1 + 1 + 1 + 1 + 1 + 1 + 1 + 1 + 1 + 1 + 1, 0, none⟩ = some (Value.func (Fn.func 34) #[] #[]) := S0.vars.2.2.2.2
  go_wp2_with (first | (refine wp_insert _ rfl (.tmp 11) (.const (.string ⟨#[99, 114, 101, 97, 116, 101]⟩)) (.tmp 15) 46 rfl 9 44 K Tryd.underlying46 shapeR (w.heap.size + 13) 0 (shapeDat w.heap.size 0) rfl S0a.map (by unfold maxLen; omega) _ _ (.string [99, 114, 101, 97, 116, 101]) rfl rfl (Go.WideMaps.keyOf_string_mk Tryd.underlying9 (by unfold maxLen; decide)) _ [] rfl ?_; intro w1 hown hg hsz; have S1 : Sh w 1 1 w1 := S0a.step S0a.size hg rfl hown hsz; have S1a := S1.alloc [.vol] rfl; clear hown hg hsz c1 c2 c3 c4 c5; have z1 := S1.size; have c1 : w1.cell? ⟨w.heap.size + 1 + 1, 0, none⟩ = some (Value.func (Fn.func 46) #[] #[Value.pointer (some ⟨w.heap.size, 0, none⟩)]) := S1.vars.1; have c2 : w1.cell? ⟨w.heap.size + 1 + 1 + 1 + 1 + 1, 0, none⟩ = some (Value.func (Fn.func 46) #[] #[Value.pointer (some ⟨w.heap.size + 1 + 1 + 1, 0, none⟩)]) := S1.vars.2.1; have c3 : w1.cell? ⟨w.heap.size + 1 + 1 + 1 + 1 + 1 + 1 + 1 + 1, 0, none⟩ = some (Value.func (Fn.func 46) #[] #[Value.pointer (some ⟨w.heap.size + 1 + 1 + 1 + 1 + 1 + 1, 0, none⟩)]) := S1.vars.2.2.1; have c4 : w1.cell? ⟨w.heap.size + 1 + 1 + 1 + 1 + 1 + 1 + 1 + 1 + 1 + 1 + 1, 0, none⟩ = some (Value.func (Fn.func 46) #[] #[Value.pointer (some ⟨w.heap.size + 1 + 1 + 1 + 1 + 1 + 1 + 1 + 1 + 1, 0, none⟩)]) := S1.vars.2.2.2.1; have c5 : w1.cell? ⟨w.heap.size + 1 + 1 + 1 + 1 + 1 + 1 + 1 + 1 + 1 + 1 + 1 + 1, 0, none⟩ = some (Value.func (Fn.func 34) #[] #[]) := S1.vars.2.2.2.2) | (refine wp_insert _ rfl (.tmp 11) (.const (.string ⟨#[100, 101, 108, 101, 116, 101]⟩)) (.tmp 18) 46 rfl 9 44 K Tryd.underlying46 shapeR (w.heap.size + 13) 1 (shapeDat w.heap.size 1) rfl S1a.map (by unfold maxLen; omega) _ _ (.string [100, 101, 108, 101, 116, 101]) rfl rfl (Go.WideMaps.keyOf_string_mk Tryd.underlying9 (by unfold maxLen; decide)) _ [] rfl ?_; intro w2 hown hg hsz; have S2 : Sh w 2 2 w2 := S1a.step S1a.size hg rfl hown hsz; have S2a := S2.alloc [.vol, .many] rfl; clear hown hg hsz c1 c2 c3 c4 c5; have z2 := S2.size; have c1 : w2.cell? ⟨w.heap.size + 1 + 1, 0, none⟩ = some (Value.func (Fn.func 46) #[] #[Value.pointer (some ⟨w.heap.size, 0, none⟩)]) := S2.vars.1; have c2 : w2.cell? ⟨w.heap.size + 1 + 1 + 1 + 1 + 1, 0, none⟩ = some (Value.func (Fn.func 46) #[] #[Value.pointer (some ⟨w.heap.size + 1 + 1 + 1, 0, none⟩)]) := S2.vars.2.1; have c3 : w2.cell? ⟨w.heap.size + 1 + 1 + 1 + 1 + 1 + 1 + 1 + 1, 0, none⟩ = some (Value.func (Fn.func 46) #[] #[Value.pointer (some ⟨w.heap.size + 1 + 1 + 1 + 1 + 1 + 1, 0, none⟩)]) := S2.vars.2.2.1; have c4 : w2.cell? ⟨w.heap.size + 1 + 1 + 1 + 1 + 1 + 1 + 1 + 1 + 1 + 1 + 1, 0, none⟩ = some (Value.func (Fn.func 46) #[] #[Value.pointer (some ⟨w.heap.size + 1 + 1 + 1 + 1 + 1 + 1 + 1 + 1 + 1, 0, none⟩)]) := S2.vars.2.2.2.1; have c5 : w2.cell? ⟨w.heap.size + 1 + 1 + 1 + 1 + 1 + 1 + 1 + 1 + 1 + 1 + 1 + 1, 0, none⟩ = some (Value.func (Fn.func 34) #[] #[]) := S2.vars.2.2.2.2) | (refine wp_insert _ rfl (.tmp 11) (.const (.string ⟨#[114, 101, 115, 105, 122, 101]⟩)) (.tmp 22) 46 rfl 9 44 K Tryd.underlying46 shapeR (w.heap.size + 13) 2 (shapeDat w.heap.size 2) rfl S2a.map (by unfold maxLen; omega) _ _ (.string [114, 101, 115, 105, 122, 101]) rfl rfl (Go.WideMaps.keyOf_string_mk Tryd.underlying9 (by unfold maxLen; decide)) _ [] rfl ?_; intro w3 hown hg hsz; have S3 : Sh w 3 3 w3 := S2a.step S2a.size hg rfl hown hsz; have S3a := S3.alloc [.vol, .block] rfl; clear hown hg hsz c1 c2 c3 c4 c5; have z3 := S3.size; have c1 : w3.cell? ⟨w.heap.size + 1 + 1, 0, none⟩ = some (Value.func (Fn.func 46) #[] #[Value.pointer (some ⟨w.heap.size, 0, none⟩)]) := S3.vars.1; have c2 : w3.cell? ⟨w.heap.size + 1 + 1 + 1 + 1 + 1, 0, none⟩ = some (Value.func (Fn.func 46) #[] #[Value.pointer (some ⟨w.heap.size + 1 + 1 + 1, 0, none⟩)]) := S3.vars.2.1; have c3 : w3.cell? ⟨w.heap.size + 1 + 1 + 1 + 1 + 1 + 1 + 1 + 1, 0, none⟩ = some (Value.func (Fn.func 46) #[] #[Value.pointer (some ⟨w.heap.size + 1 + 1 + 1 + 1 + 1 + 1, 0, none⟩)]) := S3.vars.2.2.1; have c4 : w3.cell? ⟨w.heap.size + 1 + 1 + 1 + 1 + 1 + 1 + 1 + 1 + 1 + 1 + 1, 0, none⟩ = some (Value.func (Fn.func 46) #[] #[Value.pointer (some ⟨w.heap.size + 1 + 1 + 1 + 1 + 1 + 1 + 1 + 1 + 1, 0, none⟩)]) := S3.vars.2.2.2.1; have c5 : w3.cell? ⟨w.heap.size + 1 + 1 + 1 + 1 + 1 + 1 + 1 + 1 + 1 + 1 + 1 + 1, 0, none⟩ = some (Value.func (Fn.func 34) #[] #[]) := S3.vars.2.2.2.2) | (refine wp_insert _ rfl (.tmp 11) (.const (.string ⟨#[114, 101, 97, 100]⟩)) (.tmp 26) 46 rfl 9 44 K Tryd.underlying46 shapeR (w.heap.size + 13) 3 (shapeDat w.heap.size 3) rfl S3a.map (by unfold maxLen; omega) _ _ (.string [114, 101, 97, 100]) rfl rfl (Go.WideMaps.keyOf_string_mk Tryd.underlying9 (by unfold maxLen; decide)) _ [] rfl ?_; intro w4 hown hg hsz; have S4 : Sh w 4 4 w4 := S3a.step S3a.size hg rfl hown hsz; have S4a := S4.alloc [.vol, .block, .fill] rfl; clear hown hg hsz c1 c2 c3 c4 c5; have z4 := S4.size; have c1 : w4.cell? ⟨w.heap.size + 1 + 1, 0, none⟩ = some (Value.func (Fn.func 46) #[] #[Value.pointer (some ⟨w.heap.size, 0, none⟩)]) := S4.vars.1; have c2 : w4.cell? ⟨w.heap.size + 1 + 1 + 1 + 1 + 1, 0, none⟩ = some (Value.func (Fn.func 46) #[] #[Value.pointer (some ⟨w.heap.size + 1 + 1 + 1, 0, none⟩)]) := S4.vars.2.1; have c3 : w4.cell? ⟨w.heap.size + 1 + 1 + 1 + 1 + 1 + 1 + 1 + 1, 0, none⟩ = some (Value.func (Fn.func 46) #[] #[Value.pointer (some ⟨w.heap.size + 1 + 1 + 1 + 1 + 1 + 1, 0, none⟩)]) := S4.vars.2.2.1; have c4 : w4.cell? ⟨w.heap.size + 1 + 1 + 1 + 1 + 1 + 1 + 1 + 1 + 1 + 1 + 1, 0, none⟩ = some (Value.func (Fn.func 46) #[] #[Value.pointer (some ⟨w.heap.size + 1 + 1 + 1 + 1 + 1 + 1 + 1 + 1 + 1, 0, none⟩)]) := S4.vars.2.2.2.1; have c5 : w4.cell? ⟨w.heap.size + 1 + 1 + 1 + 1 + 1 + 1 + 1 + 1 + 1 + 1 + 1 + 1, 0, none⟩ = some (Value.func (Fn.func 34) #[] #[]) := S4.vars.2.2.2.2) | (refine wp_insert _ rfl (.tmp 11) (.const (.string ⟨#[119, 114, 105, 116, 101]⟩)) (.tmp 31) 46 rfl 9 44 K Tryd.underlying46 shapeR (w.heap.size + 13) 4 (shapeDat w.heap.size 4) rfl S4a.map (by unfold maxLen; omega) _ _ (.string [119, 114, 105, 116, 101]) rfl rfl (Go.WideMaps.keyOf_string_mk Tryd.underlying9 (by unfold maxLen; decide)) _ [] rfl ?_; intro w5 hown hg hsz; have S5 : Sh w 5 5 w5 := S4a.step S4a.size hg rfl hown hsz; have S5a := S5.alloc [.vol, .block, .many] rfl; clear hown hg hsz c1 c2 c3 c4 c5; have z5 := S5.size; have c1 : w5.cell? ⟨w.heap.size + 1 + 1, 0, none⟩ = some (Value.func (Fn.func 46) #[] #[Value.pointer (some ⟨w.heap.size, 0, none⟩)]) := S5.vars.1; have c2 : w5.cell? ⟨w.heap.size + 1 + 1 + 1 + 1 + 1, 0, none⟩ = some (Value.func (Fn.func 46) #[] #[Value.pointer (some ⟨w.heap.size + 1 + 1 + 1, 0, none⟩)]) := S5.vars.2.1; have c3 : w5.cell? ⟨w.heap.size + 1 + 1 + 1 + 1 + 1 + 1 + 1 + 1, 0, none⟩ = some (Value.func (Fn.func 46) #[] #[Value.pointer (some ⟨w.heap.size + 1 + 1 + 1 + 1 + 1 + 1, 0, none⟩)]) := S5.vars.2.2.1; have c4 : w5.cell? ⟨w.heap.size + 1 + 1 + 1 + 1 + 1 + 1 + 1 + 1 + 1 + 1 + 1, 0, none⟩ = some (Value.func (Fn.func 46) #[] #[Value.pointer (some ⟨w.heap.size + 1 + 1 + 1 + 1 + 1 + 1 + 1 + 1 + 1, 0, none⟩)]) := S5.vars.2.2.2.1; have c5 : w5.cell? ⟨w.heap.size + 1 + 1 + 1 + 1 + 1 + 1 + 1 + 1 + 1 + 1 + 1 + 1, 0, none⟩ = some (Value.func (Fn.func 34) #[] #[]) := S5.vars.2.2.2.2) | (refine wp_insert _ rfl (.tmp 11) (.const (.string ⟨#[100, 105, 115, 99, 97, 114, 100]⟩)) (.tmp 36) 46 rfl 9 44 K Tryd.underlying46 shapeR (w.heap.size + 13) 5 (shapeDat w.heap.size 5) rfl S5a.map (by unfold maxLen; omega) _ _ (.string [100, 105, 115, 99, 97, 114, 100]) rfl rfl (Go.WideMaps.keyOf_string_mk Tryd.underlying9 (by unfold maxLen; decide)) _ [] rfl ?_; intro w6 hown hg hsz; have S6 : Sh w 6 6 w6 := S5a.step S5a.size hg rfl hown hsz; have S6a := S6.alloc [.vol, .dest] rfl; clear hown hg hsz c1 c2 c3 c4 c5; have z6 := S6.size; have c1 : w6.cell? ⟨w.heap.size + 1 + 1, 0, none⟩ = some (Value.func (Fn.func 46) #[] #[Value.pointer (some ⟨w.heap.size, 0, none⟩)]) := S6.vars.1; have c2 : w6.cell? ⟨w.heap.size + 1 + 1 + 1 + 1 + 1, 0, none⟩ = some (Value.func (Fn.func 46) #[] #[Value.pointer (some ⟨w.heap.size + 1 + 1 + 1, 0, none⟩)]) := S6.vars.2.1; have c3 : w6.cell? ⟨w.heap.size + 1 + 1 + 1 + 1 + 1 + 1 + 1 + 1, 0, none⟩ = some (Value.func (Fn.func 46) #[] #[Value.pointer (some ⟨w.heap.size + 1 + 1 + 1 + 1 + 1 + 1, 0, none⟩)]) := S6.vars.2.2.1; have c4 : w6.cell? ⟨w.heap.size + 1 + 1 + 1 + 1 + 1 + 1 + 1 + 1 + 1 + 1 + 1, 0, none⟩ = some (Value.func (Fn.func 46) #[] #[Value.pointer (some ⟨w.heap.size + 1 + 1 + 1 + 1 + 1 + 1 + 1 + 1 + 1, 0, none⟩)]) := S6.vars.2.2.2.1; have c5 : w6.cell? ⟨w.heap.size + 1 + 1 + 1 + 1 + 1 + 1 + 1 + 1 + 1 + 1 + 1 + 1, 0, none⟩ = some (Value.func (Fn.func 34) #[] #[]) := S6.vars.2.2.2.2) | (refine wp_insert _ rfl (.tmp 11) (.const (.string ⟨#[115, 110, 97, 112]⟩)) (.tmp 40) 46 rfl 9 44 K Tryd.underlying46 shapeR (w.heap.size + 13) 6 (shapeDat w.heap.size 6) rfl S6a.map (by unfold maxLen; omega) _ _ (.string [115, 110, 97, 112]) rfl rfl (Go.WideMaps.keyOf_string_mk Tryd.underlying9 (by unfold maxLen; decide)) _ [] rfl ?_; intro w7 hown hg hsz; have S7 : Sh w 7 7 w7 := S6a.step S6a.size hg rfl hown hsz; clear hown hg hsz c1 c2 c3 c4 c5; have z7 := S7.size; have c1 : w7.cell? ⟨w.heap.size + 1 + 1, 0, none⟩ = some (Value.func (Fn.func 46) #[] #[Value.pointer (some ⟨w.heap.size, 0, none⟩)]) := S7.vars.1; have c2 : w7.cell? ⟨w.heap.size + 1 + 1 + 1 + 1 + 1, 0, none⟩ = some (Value.func (Fn.func 46) #[] #[Value.pointer (some ⟨w.heap.size + 1 + 1 + 1, 0, none⟩)]) := S7.vars.2.1; have c3 : w7.cell? ⟨w.heap.size + 1 + 1 + 1 + 1 + 1 + 1 + 1 + 1, 0, none⟩ = some (Value.func (Fn.func 46) #[] #[Value.pointer (some ⟨w.heap.size + 1 + 1 + 1 + 1 + 1 + 1, 0, none⟩)]) := S7.vars.2.2.1; have c4 : w7.cell? ⟨w.heap.size + 1 + 1 + 1 + 1 + 1 + 1 + 1 + 1 + 1 + 1 + 1, 0, none⟩ = some (Value.func (Fn.func 46) #[] #[Value.pointer (some ⟨w.heap.size + 1 + 1 + 1 + 1 + 1 + 1 + 1 + 1 + 1, 0, none⟩)]) := S7.vars.2.2.2.1; have c5 : w7.cell? ⟨w.heap.size + 1 + 1 + 1 + 1 + 1 + 1 + 1 + 1 + 1 + 1 + 1 + 1, 0, none⟩ = some (Value.func (Fn.func 34) #[] #[]) := S7.vars.2.2.2.2) | (refine wp_insert _ rfl (.tmp 11) (.const (.string ⟨#[102, 108, 117, 115, 104]⟩)) (.tmp 41) 46 rfl 9 44 K Tryd.underlying46 shapeR (w.heap.size + 13) 7 (shapeDat w.heap.size 7) rfl S7.map (by unfold maxLen; omega) _ _ (.string [102, 108, 117, 115, 104]) rfl rfl (Go.WideMaps.keyOf_string_mk Tryd.underlying9 (by unfold maxLen; decide)) _ [] rfl ?_; intro w8 hown hg hsz; have S8 : Sh w 8 7 w8 := S7.step S7.size hg rfl hown hsz; clear hown hg hsz c1 c2 c3 c4 c5; have z8 := S8.size; have c1 : w8.cell? ⟨w.heap.size + 1 + 1, 0, none⟩ = some (Value.func (Fn.func 46) #[] #[Value.pointer (some ⟨w.heap.size, 0, none⟩)]) := S8.vars.1; have c2 : w8.cell? ⟨w.heap.size + 1 + 1 + 1 + 1 + 1, 0, none⟩ = some (Value.func (Fn.func 46) #[] #[Value.pointer (some ⟨w.heap.size + 1 + 1 + 1, 0, none⟩)]) := S8.vars.2.1; have c3 : w8.cell? ⟨w.heap.size + 1 + 1 + 1 + 1 + 1 + 1 + 1 + 1, 0, none⟩ = some (Value.func (Fn.func 46) #[] #[Value.pointer (some ⟨w.heap.size + 1 + 1 + 1 + 1 + 1 + 1, 0, none⟩)]) := S8.vars.2.2.1; have c4 : w8.cell? ⟨w.heap.size + 1 + 1 + 1 + 1 + 1 + 1 + 1 + 1 + 1 + 1 + 1, 0, none⟩ = some (Value.func (Fn.func 46) #[] #[Value.pointer (some ⟨w.heap.size + 1 + 1 + 1 + 1 + 1 + 1 + 1 + 1 + 1, 0, none⟩)]) := S8.vars.2.2.2.1; have c5 : w8.cell? ⟨w.heap.size + 1 + 1 + 1 + 1 + 1 + 1 + 1 + 1 + 1 + 1 + 1 + 1, 0, none⟩ = some (Value.func (Fn.func 34) #[] #[]) := S8.vars.2.2.2.2) | (refine wp_insert _ rfl (.tmp 11) (.const (.string ⟨#[115, 116, 97, 116, 117, 115]⟩)) (.tmp 42) 46 rfl 9 44 K Tryd.underlying46 shapeR (w.heap.size + 13) 8 (shapeDat w.heap.size 8) rfl S8.map (by unfold maxLen; omega) _ _ (.string [115, 116, 97, 116, 117, 115]) rfl rfl (Go.WideMaps.keyOf_string_mk Tryd.underlying9 (by unfold maxLen; decide)) _ [] rfl ?_; intro w9 hown hg hsz; have S9 : Sh w 9 7 w9 := S8.step S8.size hg rfl hown hsz; have S9a := S9.alloc [.many] rfl; clear hown hg hsz c1 c2 c3 c4 c5; have z9 := S9.size; have c1 : w9.cell? ⟨w.heap.size + 1 + 1, 0, none⟩ = some (Value.func (Fn.func 46) #[] #[Value.pointer (some ⟨w.heap.size, 0, none⟩)]) := S9.vars.1; have c2 : w9.cell? ⟨w.heap.size + 1 + 1 + 1 + 1 + 1, 0, none⟩ = some (Value.func (Fn.func 46) #[] #[Value.pointer (some ⟨w.heap.size + 1 + 1 + 1, 0, none⟩)]) := S9.vars.2.1; have c3 : w9.cell? ⟨w.heap.size + 1 + 1 + 1 + 1 + 1 + 1 + 1 + 1, 0, none⟩ = some (Value.func (Fn.func 46) #[] #[Value.pointer (some ⟨w.heap.size + 1 + 1 + 1 + 1 + 1 + 1, 0, none⟩)]) := S9.vars.2.2.1; have c4 : w9.cell? ⟨w.heap.size + 1 + 1 + 1 + 1 + 1 + 1 + 1 + 1 + 1 + 1 + 1, 0, none⟩ = some (Value.func (Fn.func 46) #[] #[Value.pointer (some ⟨w.heap.size + 1 + 1 + 1 + 1 + 1 + 1 + 1 + 1 + 1, 0, none⟩)]) := S9.vars.2.2.2.1; have c5 : w9.cell? ⟨w.heap.size + 1 + 1 + 1 + 1 + 1 + 1 + 1 + 1 + 1 + 1 + 1 + 1, 0, none⟩ = some (Value.func (Fn.func 34) #[] #[]) := S9.vars.2.2.2.2) | (refine wp_insert _ rfl (.tmp 11) (.const (.string ⟨#[99, 111, 109, 112, 97, 99, 116]⟩)) (.tmp 45) 46 rfl 9 44 K Tryd.underlying46 shapeR (w.heap.size + 13) 9 (shapeDat w.heap.size 9) rfl S9a.map (by unfold maxLen; omega) _ _ (.string [99, 111, 109, 112, 97, 99, 116]) rfl rfl (Go.WideMaps.keyOf_string_mk Tryd.underlying9 (by unfold maxLen; decide)) _ [] rfl ?_; intro w10 hown hg hsz; have S10 : Sh w 10 8 w10 := S9a.step S9a.size hg rfl hown hsz; clear hown hg hsz c1 c2 c3 c4 c5; have z10 := S10.size; have c1 : w10.cell? ⟨w.heap.size + 1 + 1, 0, none⟩ = some (Value.func (Fn.func 46) #[] #[Value.pointer (some ⟨w.heap.size, 0, none⟩)]) := S10.vars.1; have c2 : w10.cell? ⟨w.heap.size + 1 + 1 + 1 + 1 + 1, 0, none⟩ = some (Value.func (Fn.func 46) #[] #[Value.pointer (some ⟨w.heap.size + 1 + 1 + 1, 0, none⟩)]) := S10.vars.2.1; have c3 : w10.cell? ⟨w.heap.size + 1 + 1 + 1 + 1 + 1 + 1 + 1 + 1, 0, none⟩ = some (Value.func (Fn.func 46) #[] #[Value.pointer (some ⟨w.heap.size + 1 + 1 + 1 + 1 + 1 + 1, 0, none⟩)]) := S10.vars.2.2.1; have c4 : w10.cell? ⟨w.heap.size + 1 + 1 + 1 + 1 + 1 + 1 + 1 + 1 + 1 + 1 + 1, 0, none⟩ = some (Value.func (Fn.func 46) #[] #[Value.pointer (some ⟨w.heap.size + 1 + 1 + 1 + 1 + 1 + 1 + 1 + 1 + 1, 0, none⟩)]) := S10.vars.2.2.2.1; have c5 : w10.cell? ⟨w.heap.size + 1 + 1 + 1 + 1 + 1 + 1 + 1 + 1 + 1 + 1 + 1 + 1, 0, none⟩ = some (Value.func (Fn.func 34) #[] #[]) := S10.vars.2.2.2.2))
  go_ret
  exact ⟨rfl, S10⟩
end Go.Proofs.YtolegljmaacabaaDoor
