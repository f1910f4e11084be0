/- Of any law: a call that returned true and turned nothing that was there meets the row's 'post'. No program in sight. -/
import Derived.ProofKit
import Derived.Carry
namespace Go.Proofs.YtgabifkechofnaaDoor
open Go.ChangeShapes Go.WideShapes Go.ChangeAt Go.RowKit

theorem trodAll_below {H : Type} {enc : TypeId × Value → H} {P : Program} (hl : laidOutB P = true) {W W' : World} (hb : Below W.heap.size W W') :
    ∀ (ts : List TypeId) (vs : List Value) (ds : List (DataW H)) (p : List MemPlace), (∀ t ∈ ts, P.readableRec t = true ∧ t < P.types.size) →
      DataW.TrodAll enc P W 0 (fun _ => true) true ts vs ds p → (∀ x ∈ p, x.block < W.heap.size) → DataW.TrodAll enc P W' 0 (fun b => decide (b < W.heap.size)) true ts vs ds p
  | [], [], [], p, _, h, _ => h
  | t :: ts, v :: vs, d :: ds, p, ht, h, hp => by
    obtain ⟨p1, p2, h1, h2, rfl⟩ := h
    refine ⟨p1, p2, Below.trod hl (ht t (by simp)).1 (ht t (by simp)).2 h1 hb (fun x hx => hp x (by simp [hx])), ?_, rfl⟩
    exact trodAll_below hl hb ts vs ds p2 (fun t h => ht t (by simp [h])) h2 (fun x hx => hp x (by simp [hx]))
  | [], _ :: _, _, _, _, h, _ => by cases h
  | [], [], _ :: _, _, _, h, _ => by cases h
  | _ :: _, [], _, _, _, h, _ => by cases h
  | _ :: _, _ :: _, [], _, _, h, _ => by cases h

theorem law_post {H : Type} {enc : TypeId × Value → H} {P : Program} (hl : laidOutB P = true) {f : Func} {s : ChangeSpec} {W W' : World} {args : Array Value} {ds gs : List (DataW H)} {before : List MemPlace} {t4 : TypeId}
    (hts : ∀ t ∈ f.params.toList, P.readableRec t = true ∧ t < P.types.size) (hvars : s.vars = []) (hres : f.resultTypes = #[t4]) (h4 : P.underlying t4 = some .bool)
    (hW : DataW.Whole enc P f.params.toList s.vars false W args.toList ds gs before) (hb : Below W.heap.size W W')
    (hfn : s.fn H (ds ++ gs) = { results := [.lit (.bool true)], args := ds }) :
    s.post enc P f false true false false W args (.bool true) W' := by
  have hW' := hW
  obtain ⟨p, q, hA, hV, rfl, hz, hn⟩ := hW
  have hlt : ∀ x ∈ p, x.block < W.heap.size := fun x hx => by simpa using hW'.lt x (by simp [hx])
  refine ⟨ds, gs, p ++ q, [], p, [], hW', ?_, ?_, ?_, hb.frame _, fun h => by cases h⟩
  · rw [hres, hfn]
    exact trodAll_mk1 (shut_bool h4 _)
  · rw [hfn]
    exact trodAll_below hl hb _ _ _ _ hts hA hlt
  · rw [hvars, hfn]; rfl
end Go.Proofs.YtgabifkechofnaaDoor
