/- Texts that two calls own are compared; rows behind new blocks. -/
import Derived.Test.YtolegljmaacabaaDoorReqD
namespace Go.Proofs.YtolegljmaacabaaDoor
open Go.RowKit

theorem ow_below {W W' : World} {B : Nat} {e : TypeId} {size n : Nat} {v : Value} {xs : List Value} (h : W.ownsRow B e size v n xs) (hb : Below W.heap.size W W') : W'.ownsRow B e size v n xs :=
  h.kept (row := none) ⟨hb.os, hb.tape, hb.output, hb.size, fun k hk _ => hb.block k hk⟩ (by cases hv : v.ownBlock <;> simp)

def strAt (ws : List ByteArray) (k : Nat) : ByteArray := (ws[k]?).getD ⟨#[]⟩
theorem own_shape {W : World} {B : Nat} {e : TypeId} {v : Value} {ws : List ByteArray} (h : W.ownsRow B e 1 v ws.length (strsV ws)) :
    ∃ pa ca, v = .slice pa ws.length ca ∧ ∀ k, k < ws.length → ∃ b o, pa = some ⟨b, o, none⟩ ∧ W.cell? ⟨b, o + k, none⟩ = some (.string (strAt ws k)) := by
  have hl := h.lt
  rcases h.2 with ⟨h1, h2⟩ | ⟨g, cap, cur, h1, _⟩
  · exact ⟨none, 0, by rw [h2]; exact h1, fun k hk => by omega⟩
  · refine ⟨some ⟨g, 0, none⟩, cap, h1, fun k hk => ⟨g, 0, rfl, ?_⟩⟩
    subst h1
    have := ow_cell h k (by simp [strsV]; exact hk)
    rw [Nat.zero_add, this]
    simp [strsV, strAt, List.getElem?_eq_getElem hk]
theorem texts_own {B B2 : Nat} {v v2 : Value} {ws ws2 : List ByteArray} (w : World) (hn : ws.length ≤ 140737488355328) (hm : ws2.length ≤ 140737488355328) (h1 : w.ownsRow B 9 1 v ws.length (strsV ws)) (h2 : w.ownsRow B2 9 1 v2 ws2.length (strsV ws2)) :
    Calls Tryd.prog 12 #[v, v2] w fun e w' => e = .returned (.bool (decide (ws = ws2))) ∧ ∃ q, w' = w.drewN q := by
  obtain ⟨pa, ca, rfl, ha⟩ := own_shape h1
  obtain ⟨pb, cb, rfl, hb⟩ := own_shape h2
  refine (texts_any ws.length ws2.length ca cb pa pb (strAt ws) (strAt ws2) hn hm w ha hb).mono fun e w' h => ⟨?_, h.2⟩
  rw [h.1]
  congr 2
  unfold textsEq
  refine decide_eq_decide.2 ⟨fun ⟨e1, e2⟩ => ?_, fun h => by subst h; exact ⟨rfl, fun _ _ => rfl⟩⟩
  refine List.ext_getElem e1 fun k h3 h4 => ?_
  have := e2 k h3
  simpa [strAt, h3, h4] using this
theorem bytes_eq_of {ws ws2 : List ByteArray} (h : ws.map (fun x => x.data.toList) = ws2.map (fun x => x.data.toList)) : ws = ws2 := by
  induction ws generalizing ws2 with
  | nil => cases ws2 <;> simp_all
  | cons a r ih =>
    cases ws2 with
    | nil => simp at h
    | cons b r2 =>
      simp only [List.map_cons, List.cons.injEq] at h
      rw [ih h.2, Go.WideShapes.bytes_inj h.1]
theorem texts_yes {B B2 : Nat} {v v2 : Value} {ws ws2 : List ByteArray} {l : List (List UInt8)} (w : World) (h1 : w.ownsRow B 9 1 v ws.length (strsV ws)) (h2 : w.ownsRow B2 9 1 v2 ws2.length (strsV ws2))
    (e1 : ws.map (fun x => x.data.toList) = l) (e2 : ws2.map (fun x => x.data.toList) = l) (hn : l.length ≤ 140737488355328) :
    Calls Tryd.prog 12 #[v, v2] w fun e w' => e = .returned (.bool true) ∧ ∃ q, w' = w.drewN q := by
  have a1 : ws.length = l.length := by rw [← e1]; simp
  have a2 : ws2.length = l.length := by rw [← e2]; simp
  refine (texts_own w (by omega) (by omega) h1 h2).mono fun e w' h => ⟨?_, h.2⟩
  rw [h.1, decide_eq_true (bytes_eq_of (e1.trans e2.symm))]
theorem words_len {s : ByteArray} (h : s.size ≤ 2000000) : (wordsL s.data.toList).length ≤ 140737488355328 := by
  have h1 := wordsL_length s.data.toList
  have h2 : s.data.toList.length = s.size := by simp
  omega
end Go.Proofs.YtolegljmaacabaaDoor
