/- The proof, part 3. -/
import Derived.RangeFuncWrites
import Derived.RangeFuncBox
import Derived.RangeFuncLeaves
import Derived.Maps.AppendAt
import Derived.OwnWalkIn
import Derived.Test.YtbigkioechkngaaGreatQ1
import Derived.Test.YtbigkioechkngaaGreatProg
import Derived.Outline
import Derived.Deep.RegionLaw
import Derived.RegionIn
import Derived.Deep.Slices
import Derived.Deep.Fields
import Derived.ChangeSame
import Derived.OpenShut
set_option maxRecDepth 100000
set_option maxHeartbeats 8000000
namespace Go.Proofs.YtbigkioechkngaaGreat
open Go.RowKit
theorem lx {F:Fence} {n:Nat} {P:Program} (w:World) {ops:Array Oper} {rest:List Oper} {o:Oper} {a:Act} {Q:Exit→Act→World→Prop} (hg:o.guard=none) (s x:Operand) (t:TypeId)
 (hop:o.op=Op.call {callee:=Callee.builtin Builtin.append,args := #[s,x],argTypes := #[t,t]}) (v u:Value) (hs:a.eval s=v) (hx:a.eval x=u) (v':Value) (w':World) (hrun:(Builtin.append_ #[t,t] o.type #[v,u]).run P w=.ok v' w')
 (h:wpListIn F n P ops Q rest (a.put o.dst v') w'):wpListIn F n P ops Q (o::rest) a w:=by
 refine wpListIn_plain hg fun K hK'=>?_;unfold Oper.wpIn;refine ⟨?_,?_⟩
 ·simp[Oper.about,hop,resolve,Target.leads,Sem.run_pure]
 ·rw[Oper.semAt_plain F _ _ (by rw[hop];intro c hc';cases hc')]
  simp[execOp,hop,resolve,invoke,builtin,hs,hx,hrun,Result.andThen];exact hK' _ _ h
theorem room_wide (k:Nat):Fence.wide.room k:=fun d h=>by cases h
theorem Gy {m m':Nat} {P:Program} {l:Nat} {f:FuncId} {tmps:Array Value} {assign body:Code} {w:World} {R:Ending→World→Prop}
 (h:RoundIn Fence.wide m P l f tmps assign body w R):RoundIn Fence.wide m' P l f tmps assign body w R:=⟨h.1,fun c cs _=>h.2 c cs (room_wide _)⟩
theorem Gz {m:Nat} (m':Nat) {P:Program} {l:Nat} {args:Array Value} {W:World} {R:Ending→World→Prop} (h:YieldAt Fence.wide m P l args W R):YieldAt Fence.wide m' P l args W R:=by obtain ⟨fn,tmps,assign,body,hy,hR⟩:=h;exact ⟨fn,tmps,assign,body,hy,Gy hR⟩
def fA (M:Nat→Prop) (A B:World):Prop:=A.heap.size≤B.heap.size∧∀b,M b→b<A.heap.size→B.heap[b]?=A.heap[b]?
theorem fA.refl (M:Nat→Prop) (A:World):fA M A A:=⟨aT,fun _ _ _=>rfl⟩
theorem fA.trans {M:Nat→Prop} {A B C:World} (h:fA M A B) (k:fA M B C):fA M A C:=⟨Nat.le_trans h.1 k.1,fun b hm hb=>(k.2 b hm (Nat.lt_of_lt_of_le hb h.1)).trans (h.2 b hm hb)⟩
theorem fA.less {M M':Nat→Prop} {A B:World} (h:fA M A B) (hm:∀b,M' b→M b):fA M' A B:=⟨h.1,fun b hb=>h.2 b (hm b hb)⟩
theorem fA.grown {M:Nat→Prop} {A B:World} {row:Option Nat} (h:A.grownBy B row) (hr:∀r,row=some r→¬M r):fA M A B:=⟨h.size,fun b hm hb=>h.block b hb (fun e=>hr b e.symm hm)⟩
theorem fA.cell {M:Nat→Prop} {A B:World} (h:fA M A B) {a:Addr} {v:Value} (hm:M a.block) (hc:A.cell? a=some v):B.cell? a=some v:=(World.cell?_of_block (h.2 a.block hm (World.block_lt_of_cell? A a hc))).trans hc
def New (M M':Nat→Prop) (A B:World):Prop:=∀b,M' b→M b∨(A.heap.size≤b∧b<B.heap.size)
def NB {α:Type} (n:Nat) (P:Program) (g:Nat) (lb:Array Value) (NC:α→Array Value) (M₀:Nat→Prop) (L:List α) (w:World):Prop:=
 ∀(l:Nat) (J:(Nat→Prop)→List α→World→Prop) (Jx:List α→World→Prop) (W:World),Bw w W →
  (∀M M' s A B,J M s A→A.grownBy B none→New M M' A B→J M' s B)→(∀s A B,Jx s A→A.grownBy B none→Jx s B) →
  (∀m M pre x W1,J M pre W1→pre++[x] <+: L→YieldAt Fence.wide m P l (NC x) W1 fun e W'=>(e=.returned (.bool true)∧J M (pre++[x]) W'∧fA M W1 W')∨(e=.returned (.bool false)∧Jx (pre++[x]) W')) →
  J M₀ [] W→CallsIn Fence.wide n P g (#[.func (.yield l) #[] #[]]++lb) W fun e W'=>(∃v,e=.returned v)∧((∃M,J M L W')∨(∃pre,pre <+: L∧Jx pre W'))
def adk {α:Type} (M:Nat→Prop) (B:Nat) (I:(Nat→Prop)→List α→World→Prop) (Ix:Code→List α→World→Prop) (xs:List α) (W:World):Exit→Act→World→Prop
 |.normal,_,W'=>KeepsFrom B W W'∧fA M W W'∧I M xs W'
 |.ret,_,W'=>KeepsFrom B W W'∧Ix .ret xs W'
 |.exit id,_,W'=>KeepsFrom B W W'∧Ix (.exit id) xs W'
 |.goto t,_,W'=>KeepsFrom B W W'∧Ix (.goto t) xs W'
 |.panic _,_,_=>False
 |.outgrown,_,_=>False
theorem iy {α:Type} {n:Nat} {P:Program} {g:Operand} {ps:Array Tmp} {assign body:Code} {Q:Exit→Act→World→Prop} {a:Act} {w:World}
 (h1:1≤n) {gf:Nat} {lb:Array Value} (hg:a.eval g=.func (.func gf) #[] lb) (eg:∀args w,(callFunc gf args).run P w=.ok (.enter gf args) w)
 {NC:α→Array Value} {M₀:Nat→Prop} {L:List α} (hseq:NB (n-1) P gf lb NC M₀ L w) (hM:∀b,M₀ b→b<w.heap.size) (hps:∀x,(NC x).size=ps.size)
 (I:(Nat→Prop)→List α→World→Prop) (Ix:Code→List α→World→Prop)
 (hI1:∀M M' s A B,I M s A→A.grownBy B none→New M M' A B→I M' s B) (hI2:∀M s A B r o,I M s A→A.grownBy B (some r)→w.heap.size≤r→A.heap[r]?=some o→o.isCells=false→I M s B)
 (hX1:∀c s A B,Ix c s A→A.grownBy B none→Ix c s B) (hX2:∀c s A B r o,Ix c s A→A.grownBy B (some r)→w.heap.size≤r→A.heap[r]?=some o→o.isCells=false→Ix c s B)
 (h0:I M₀ [] w) (Ax:(Nat→Prop)→α→Act→World→Prop) (hAx:∀M x a' A B r o,Ax M x a' A→A.grownBy B (some r)→w.heap.size≤r→A.heap[r]?=some o→o.isCells=false→Ax M x a' B)
 (Vw:∀(l:Nat) (M:Nat→Prop) (pre:List α) (x:α) (W:World) (K:Act→World→Prop),I M pre W→(∀a' W',W.grownBy W' none→Ax M x a' W'→K a' W') →
  assign.wpIn (Fence.wide.inRound l) (n-1-1) P (Exit.then K (fun _ _ _=>False)) {tmps:=(ps.zip (NC x)).foldl (fun t (p,v)=>t.setIfInBounds p v) a.tmps,defers:=[]} W)
 (adm:∀(l:Nat) (M:Nat→Prop) (pre:List α) (x:α) (a':Act) (W:World),I M pre W→Ax M x a' W→pre++[x] <+: L→body.wpIn (Fence.wide.inRound l) (n-1-1) P (adk M w.heap.size I Ix (pre++[x]) W) a' W)
 (hdone:∀(D:Nat) (M:Nat→Prop) (W:World),w.heap.size≤D→I M L W→W.heap[D]?=some (.deferred (some []))→Q .normal {a with defers:={target:=.collected D,args := #[]}::a.defers} W)
 (xL:∀(D:Nat) (c:Code) (pre:List α) (W:World),w.heap.size≤D→pre <+: L→Ix c pre W→W.heap[D]?=some (.deferred (some []))→c.wpIn Fence.wide n P Q {a with defers:={target:=.collected D,args := #[]}::a.defers} W) :
 (Code.rangeFunc g ps assign body).wpIn Fence.wide n P Q a w:=by
 refine wpIn_rangeFunc fun fn hfn=>?_;obtain ⟨rec,Cl⟩:∃rec:LoopState→Option Code→Loop,rec=fun st pe=>{state:=st,pending:=pe,fn,tmps:=a.tmps,params:=ps,assign,body,defers:=w.heap.size}:=⟨_,rfl⟩
 obtain ⟨W1,hW1⟩:=aG ((w.alloc (.deferred (some []))).alloc (.loop (rec .ready none)));have hL1:W1.heap[w.heap.size+1]?=some (.loop (rec .ready none)):=by rw[← hW1];have:=World.alloc_heap_new (w.alloc (.deferred (some []))) (.loop (rec .ready none));rwa [World.size_alloc] at this
 have hK1:W1.heap[w.heap.size]?=some (.deferred (some [])):=by rw[← hW1];exact (Below.heap_alloc _ _ _ (by simp)).trans (World.alloc_heap_new w _)
 have Vv:w.grownBy W1 none:=by rw[← hW1];exact (World.grownBy_alloc _ _ _).trans (World.grownBy_alloc _ _ _)
 have ajS:I M₀ [] W1:=hI1 M₀ M₀ [] w W1 h0 Vv (fun b hb=>.inl hb);have hB1:Bw w W1:=by rw[← hW1];exact ((Below.refl _ w).alloc aT _).alloc (by simp) _
 refine ⟨w.heap.size+1,[{target:=.collected w.heap.size,args := #[]}],W1,{target:=.fn (.func gf) lb,args := #[.func (.yield (w.heap.size+1)) #[] #[]]},W1,gf,
  #[.func (.yield (w.heap.size+1)) #[] #[]]++lb,W1,?_,?_,fun _ _=>trivial,?_,fun _=>h1,?_⟩
 ·rw[← hW1,Cl];exact run_enterLoop_outer _ _ _ _ _
 ·simp only[resolve,hg]
  simp[go_sem]
 ·simp[invoke,go_sem,eg]
 refine (hseq (w.heap.size+1)
  (fun M pre W=>I M pre W∧W.heap[w.heap.size+1]?=some (.loop (rec .ready none))∧W.heap[w.heap.size]?=some (.deferred (some []))∧¬M (w.heap.size+1)∧¬M w.heap.size)
  (fun pre W=>∃c,Ix c pre W∧W.heap[w.heap.size+1]?=some (.loop (rec .done (some c)))∧W.heap[w.heap.size]?=some (.deferred (some [])))
  W1 hB1 ?_ ?_ ?_ ⟨ajS,hL1,hK1,fun h=>by have:=hM _ h;omega,fun h=>by have:=hM _ h;omega⟩).mono ?_
 ·rintro M M' s A B ⟨k1,k2,k3,k4,k5⟩ hgr hn
  have lt2:=(Array.getElem?_eq_some_iff.1 k2).1;have lt3:=(Array.getElem?_eq_some_iff.1 k3).1;refine ⟨hI1 M M' s A B k1 hgr hn,(hgr.block _ lt2 (by simp)).trans k2,(hgr.block _ lt3 (by simp)).trans k3,fun h=>?_,fun h=>?_⟩
  ·rcases hn _ h with h|h
   ·exact k4 h
   ·omega
  ·rcases hn _ h with h|h
   ·exact k5 h
   ·omega
 ·rintro s A B ⟨c,k1,k2,k3⟩ hgr
  have lt2:=(Array.getElem?_eq_some_iff.1 k2).1;have lt3:=(Array.getElem?_eq_some_iff.1 k3).1;exact ⟨c,hX1 c s A B k1 hgr,(hgr.block _ lt2 (by simp)).trans k2,(hgr.block _ lt3 (by simp)).trans k3⟩
 ·rintro m M pre x W ⟨hi,hl,hk,zi,zE⟩ hlen
  refine Gz (m:=n-1-1) m ?_;have hy:=run_yield (P:=P) (args:=NC x) hl (by rw[Cl];exact hps x);rw[Cl] at hy;refine ⟨fn,_,assign,body,hy,roundIn_of_wpIn hfn (Vw _ M pre x W _ hi ?_)⟩;clear hy;intro a' Wa hga Ux;have hka:fA M W Wa:=fA.grown hga (fun r e=>by cases e);have hia:I M pre Wa:=hI1 M M pre W Wa hi hga (fun b hb=>.inl hb);have hl':Wa.heap[w.heap.size+1]?=some (.loop (rec .ready none)):=(hga.block _ (Array.getElem?_eq_some_iff.1 hl).1 (by simp)).trans hl;have hk':Wa.heap[w.heap.size]?=some (.deferred (some [])):=(hga.block _ (Array.getElem?_eq_some_iff.1 hk).1 (by simp)).trans hk;have hlt:w.heap.size+1<Wa.heap.size:=(Array.getElem?_eq_some_iff.1 hl').1;refine ⟨_,run_beginRound hl' (by rw[Cl]),?_⟩;have QI:Wa.grownBy (Wa.putObj (w.heap.size+1) (.loop {rec .ready none with state:=.busy})) (some (w.heap.size+1)):=grownBy_putObj' _ _ _;have hl2:(Wa.putObj (w.heap.size+1) (.loop {rec .ready none with state:=.busy})).heap[w.heap.size+1]?=some (.loop {rec .ready none with state:=.busy}):=World.putObj_heap_same hlt;have hk2:(Wa.putObj (w.heap.size+1) (.loop {rec .ready none with state:=.busy})).heap[w.heap.size]?=some (.deferred (some [])):=(World.putObj_heap_other (by omega)).trans hk';have tF:fA M Wa (Wa.putObj (w.heap.size+1) (.loop {rec .ready none with state:=.busy})):=fA.grown QI (fun r e=>by cases e;exact zi);refine wpIn_mono (adm _ M pre x a' _ (hI2 M pre Wa _ _ _ hia QI (by omega) hl' rfl) (hAx M x a' Wa _ _ _ Ux QI (by omega) hl' rfl) hlen) ?_;have fin:∀(jump:Option Code) (W3:World),KeepsFrom w.heap.size (Wa.putObj (w.heap.size+1) (.loop {rec .ready none with state:=.busy})) W3 →
   (Instr.endRound (w.heap.size+1) jump).run P W3=.ok (.bool jump.isNone) (W3.putObj (w.heap.size+1) (.loop (rec (if jump.isNone then .ready else .done) jump))) ∧
   W3.heap[w.heap.size+1]?=some (.loop {rec .ready none with state:=.busy}) ∧
   (W3.putObj (w.heap.size+1) (.loop (rec (if jump.isNone then .ready else .done) jump))).heap[w.heap.size+1]?=some (.loop (rec (if jump.isNone then .ready else .done) jump)) ∧
   (W3.putObj (w.heap.size+1) (.loop (rec (if jump.isNone then .ready else .done) jump))).heap[w.heap.size]?=some (.deferred (some [])):=fun jump W3 hk3=>by
   have B5:=hk3.same _ _ (by omega) hl2 rfl;have:=run_endRound (P:=P) jump B5;rw[Cl] at this ⊢;exact ⟨this,by rw[Cl] at B5;exact B5,World.putObj_heap_same (Array.getElem?_eq_some_iff.1 B5).1,(World.putObj_heap_other (by omega)).trans (hk3.same _ _ aT hk2 rfl)⟩
  rintro e a3 W3 hp;cases e with
  |normal=>obtain ⟨hk3,ajV,zQ⟩:=hp;obtain ⟨hr,B5,hl4,hk4⟩:=fin none W3 hk3;have ND:W3.grownBy (W3.putObj (w.heap.size+1) (.loop (rec .ready none))) (some (w.heap.size+1)):=grownBy_putObj' _ _ _;exact ⟨_,_,hr,.inl ⟨rfl,⟨hI2 M _ W3 _ _ _ zQ ND (by omega) B5 rfl,hl4,hk4,zi,zE⟩,((hka.trans tF).trans ajV).trans (fA.grown ND (fun r e=>by cases e;exact zi))⟩⟩
  |ret=>obtain ⟨hk3,zQ⟩:=hp;obtain ⟨hr,B5,hl4,hk4⟩:=fin (some .ret) W3 hk3;exact ⟨_,_,hr,.inr ⟨rfl,.ret,hX2 _ _ W3 _ _ _ zQ (grownBy_putObj' _ _ _) (by omega) B5 rfl,hl4,hk4⟩⟩
  |exit id=>obtain ⟨hk3,zQ⟩:=hp;obtain ⟨hr,B5,hl4,hk4⟩:=fin (some (.exit id)) W3 hk3;exact ⟨_,_,hr,.inr ⟨rfl,.exit id,hX2 _ _ W3 _ _ _ zQ (grownBy_putObj' _ _ _) (by omega) B5 rfl,hl4,hk4⟩⟩
  |goto t=>obtain ⟨hk3,zQ⟩:=hp;obtain ⟨hr,B5,hl4,hk4⟩:=fin (some (.goto t)) W3 hk3;exact ⟨_,_,hr,.inr ⟨rfl,.goto t,hX2 _ _ W3 _ _ _ zQ (grownBy_putObj' _ _ _) (by omega) B5 rfl,hl4,hk4⟩⟩
  |panic ch=>exact hp.elim
  |outgrown=>exact hp.elim
 ·rintro e W2 ⟨⟨v,rfl⟩,(⟨M,hi,hl,hk,zi,zE⟩|⟨pre,hSp,c,hi,hl,hk⟩)⟩
  ·exact ⟨none,_,by have:=run_endLoop (P:=P) hl (by rw[Cl];simp);rw[Cl] at this;exact this,hdone _ M _ aT (hI2 M _ W2 _ _ _ hi (grownBy_putObj' _ _ _) (by omega) hl rfl) ((World.putObj_heap_other (by omega)).trans hk)⟩
  ·exact ⟨some c,_,by have:=run_endLoop (P:=P) hl (by rw[Cl];simp);rw[Cl] at this;exact this,xL _ c pre _ aT hSp (hX2 _ _ W2 _ _ _ hi (grownBy_putObj' _ _ _) (by omega) hl rfl) ((World.putObj_heap_other (by omega)).trans hk)⟩
def k8:List dy→dy→Bool→List dy
 |[],v,laid=>if laid then [] else [v]
 |x::l,v,laid=>(if laid=false∧v.id≤x.id then [v] else [])++(if x.id=v.id then [] else [x])++k8 l v (laid || decide (v.id≤x.id))
theorem NM (x:dy) (l:List dy) (v:dy) (laid:Bool):k8 (x::l) v laid=(if laid=false∧v.id≤x.id then [v] else [])++(if x.id=v.id then [] else [x])++k8 l v (laid || decide (v.id≤x.id)):=by simp only[k8]
theorem GF:∀(l:List dy) (v:dy) (laid:Bool),(k8 l v laid).length≤l.length+(if laid then 0 else 1)
 |[],v,laid=>by cases laid <;> simp[k8]
 |x::l,v,laid=>by
  have:=GF l v (laid || decide (v.id≤x.id));simp only[k8,List.length_append,List.length_cons];cases laid
  ·by_cases h:v.id≤x.id
   ·by_cases e:x.id=v.id
    ·simp[e] at this ⊢;omega
    ·simp[h,e] at this ⊢;omega
   ·by_cases e:x.id=v.id
    ·omega
    ·simp[h,e] at this ⊢;omega
  ·by_cases e:x.id=v.id
   ·simp[e] at this ⊢;omega
   ·simp[e] at this ⊢;omega
noncomputable def fo (l:List dy) (v:dy):List dy:=if dR l=true∧cI v=true then (if 64<(k8 l v false).length then [] else k8 l v false) else []
theorem rQ {l:List dy} (h:dR l=true):l.length≤64:=(dw.1 h).2.2
def eh:List az→List az→List az
 |out,[]=>out
 |out,p::l=>eh (fE out p.2 ((kh out p.2).1+1) false) l
def eW:List az→List dy→List az
 |out,[]=>out
 |out,d::l=>eW (eh out (aB d.map)) l
noncomputable def aY (l:List dy):List az:=if dR l=true then eW [] l else []
theorem GG (l:List az) (p:az):∀out,eh out (l++[p])=fE (eh out l) p.2 ((kh (eh out l) p.2).1+1) false:=by
 induction l with
 |nil=>intro out;simp only[List.nil_append,eh]
 |cons a l ih=>intro out;simp only[List.cons_append,eh];exact ih _
theorem GH (l:List dy) (d:dy):∀out,eW out (l++[d])=eh (eW out l) (aB d.map):=by
 induction l with
 |nil=>intro out;simp only[List.nil_append,eW]
 |cons a l ih=>intro out;simp only[List.cons_append,eW];exact ih _
def Uz (m:Nat) (l:List az):Prop:=l.length≤m∧∀x∈l,0≤x.2∧x.2≤m
theorem Mt {m:Nat} {l:List az} (h:Uz m l) (k:Int):0≤(kh l k).1∧(kh l k).1≤m:=by
 unfold kh
 split
 ·rename_i x hx;exact h.2 x (List.mem_of_find?_eq_some hx)
 ·simp
theorem GI:∀(l:List az) (k v:Int) (laid:Bool) (x:az),x∈fE l k v laid→x∈l∨x=(k,v)
 |[],k,v,laid,x,h=>by cases laid <;> simp[fE] at h;exact .inr h
 |a::l,k,v,laid,x,h=>by
  simp only[fE,List.mem_append] at h;rcases h with (h|h)|h
  ·split at h
   ·simp at h;exact .inr h
   ·simp at h
  ·split at h
   ·simp at h
   ·simp at h;exact .inl (by rw[h];simp)
  ·rcases GI l k v _ x h with h|h
   ·exact .inl (by simp[h])
   ·exact .inr h
theorem VC {m:Nat} {l:List az} (h:Uz m l) (k:Int):Uz (m+1) (fE l k ((kh l k).1+1) false):=by
 refine ⟨by have:=qC l k ((kh l k).1+1) false;have:=h.1;simp at *;omega,fun x hx=>?_⟩;rcases GI _ _ _ _ _ hx with hx|rfl
 ·have:=h.2 x hx;omega
 ·have:=Mt h k;simp only;omega
theorem CS (l:List az):∀ {m:Nat} {out:List az},Uz m out→Uz (m+l.length) (eh out l):=by
 induction l with
 |nil=>intro m out h;exact h
 |cons a l ih=>intro m out h;have:=ih (VC h a.2);simp only[eh,List.length_cons];rw[show m+(l.length+1)=m+1+l.length by omega];exact this
theorem oW {α:Type} {l:List α} {k:Nat} {s:α} (h:l[k]?=some s):l.take (k+1)=l.take k++[s]:=by obtain ⟨hk2,hx⟩:=List.getElem?_eq_some_iff.1 h;rw[List.take_succ_eq_append_getElem hk2,hx]
theorem CT:∀(l:List dy) {m:Nat} {out:List az},bO l→Uz m out→Uz (m+l.length*2000) (eW out l)
 |[],m,out,_,h=>by simpa [eW] using h
 |d::l,m,out,hl,h=>by
  have h1:=CS (aB d.map) h;have h2:=hl d (by simp);unfold dN at h2;have h3:Uz (m+2000) (eh out (aB d.map)):=⟨by have:=h1.1;omega,fun x hx=>by have:=h1.2 x hx;omega⟩
  have:=CT l (fun u hu=>hl u (by simp[hu])) h3;simp only[eW,List.length_cons];rw[show m+(l.length+1)*2000=m+2000+l.length*2000 by omega];exact this
theorem GJ (x:List dy) (v1:Value) (w:World) (h1:eU w v1 x) (l1:bO x):Calls Tryz.prog 35 #[v1] w fun e w'=>∃v',e=.returned v'∧ee w' v' (aY x)∧Bw w w':=by
 have xJ:=aa l1;have QG:=aa h1;clear l1;obtain ⟨p,cp,rfl,a1,a2,ha⟩:=h1;have HA:=aa ha;obtain ⟨N,hN⟩:=aG x.length;rw[hN] at a1 QG;rw[hN];have hlc:=fK (n:=N) a2;have HN:=aa hN;clear ha hN a1 a2;go_enter Tryz.func35,Tryz.ntmps35;go_wp2_with fail;go_loopw [3,4,5,6,7,8] (fun v i _ _ _ _ wr=>∃(k:Nat) (vv:Value),vv=v∧k≤N∧(0<k→dR x=true)∧i=.int .i64 k∧ee wr v (eW [] (x.take k))∧Bw w wr) (fun _ i _ _ _ _ _=>N-(intOf i).toNat)
 case atStart=>exact ⟨0,_,rfl,dQ,fun h=>by omega,rfl,by rw[List.take_zero];exact ⟨_,0,rfl,aT,by unfold maxLen;omega,fun i x h=>by simp[eW] at h⟩,aq⟩
 case round=>
  obtain ⟨k,vv,YX,hk,tH,rfl,hown,hb⟩:=hrel;subst YX;have HB:=aa hb;have HO:=aa hown;have dS:=aa tH;clear hb hown tH;by_cases hlt:k<N
  case neg=>
   obtain rfl:k=N:=by omega
   have HF:=aa (show aY x=eW [] (x.take k) by
    rw[List.take_of_length_le (by rw[HN.o];exact aT)];unfold aY;by_cases h0:0<k
    ·rw[if_pos (dS h0)]
    ·have:x=[]:=List.eq_nil_of_length_eq_zero (by rw[HN.o];omega)
     subst this;split <;> rfl)
   go_wp2_with fail;go_ret;exact ⟨_,rfl,by rw[HF.o];exact HO,HB⟩
  have fO:(k:Int)<(N:Int):=by omega
  obtain ⟨s,hs⟩:=fy (l:=x) (k:=k) (by rw[HN.o];omega);obtain ⟨i1,i2,g,o,a',b',c',rfl,e0,e1,e2,e3,e4,e5⟩:=HA.o k s hs;have HV0:=aa (show V5 g (o+k*5) s.id s.size a' b' c' w from ⟨e0,e1,e2,e3,e4⟩);have yN:=aa e5;have HS:=aa hs;have rR:=aa (xJ.o s (List.mem_of_getElem? hs));clear e0 e1 e2 e3 e4 e5 i1 i2 hs;go_wp2_with fail;refine (tD x _ _ (QG.keep (af HB)) xJ).mono ?_;rintro e w1 ⟨rfl,hb⟩;have aZ:=aV HB hb;have Mn:=aa (HO.keep (af hb));clear hb;cases hm:dR x with
  |false=>
   have HF:=aa (show aY x=eW [] (x.take k) by
    unfold aY;rw[hm,if_neg (by simp)];by_cases h0:0<k
    ·have:=dS.o h0;rw[hm] at this;exact absurd this (by simp)
    ·obtain rfl:k=0:=by omega
     rfl)
   clear hm;go_wp2_with fail;go_ret;exact ⟨_,rfl,by rw[HF.o];exact Mn,aZ⟩
  |true=>
   have HM:=aa hm;have ajY:N≤64:=by rw[← HN.o];exact rQ hm
   clear hm;have HV:=aa (HV0.below aZ);obtain ⟨r0,r1,r2,r3,r4⟩:=HV.o;go_wp2_with fail;refine (ku s.map _ _ _ _ (yN.keep (af aZ)) (by have:=rR.o;unfold dN at this;omega)).mono ?_;rintro e w2 ⟨v2,rfl,hrow,hb⟩;have bU:=aV aZ hb;have nM:=aa (Mn.keep (af hb));have Q9:=aa (nZ _ yN);obtain ⟨pp,cpp,rfl,_,hcm,hcs⟩:=eH hrow;have Q5:=aa hcs;have HT:=aa (show eW [] (x.take (k+1))=eh (eW [] (x.take k)) (aB s.map) by rw[oW HS.o,GH]);have fL:=aa (show Uz (64*2000) (eW [] (x.take k)) by
    have h1:=CT (x.take k) (m:=0) (out:=[]) (fun d hd=>xJ d (List.mem_of_mem_take hd)) ⟨by simp,fun x h=>by simp at h⟩;have h2:(x.take k).length≤64:=by rw[List.length_take];omega
    exact ⟨by have:=h1.1;omega,fun x hx=>by have:=h1.2 x hx;omega⟩)
   have hM:=rR.o;unfold dN at hM;obtain ⟨l,hl⟩:=aG (aB s.map);rw[hl] at Q5 HT Q9 hM ⊢;obtain ⟨Kq,hout⟩:∃o,eW [] (x.take k)=o:=⟨_,rfl⟩
   rw[hout] at nM HT fL;obtain ⟨M,hMl⟩:=aG l.length;rw[hMl] at hM ⊢;have qA:=aa hMl;clear hb hrow hcs hl hMl hout hcm r0 r1 r2 r3 r4;go_wp2_with fail;go_loopw [3,6,7,8] (fun v i _ _ wr2=>∃(j:Nat) (vv2:Value),vv2=v∧j≤M∧i=.int .i64 j∧ee wr2 v (eh Kq (l.take j))∧Bw w wr2∧Bw w2 wr2) (fun _ i _ _ _=>M-(intOf i).toNat)
   case atStart=>exact ⟨0,_,rfl,dQ,rfl,by rw[List.take_zero];exact nM,bU,aH⟩
   case round=>
    obtain ⟨j,vv2,ajZ,hj,rfl,hown,hb,hb2⟩:=hrel;subst ajZ;have HBI:=aa hb;have HOI:=aa hown;have UA:=aa hb2;clear hb hown hb2;by_cases jh:j<M
    case neg=>
     obtain rfl:j=M:=by omega
     have HF:=aa (show eW [] (x.take (k+1))=eh Kq (l.take j) by rw[HT.o,List.take_of_length_le (by rw[qA.o];exact aT)]);go_wp2_with fail;go_roundw
     case rel=>exact ⟨k+1,_,rfl,by omega,fun _=>HM,by go_num,by rw[HF.o];exact HOI.o,HBI.o⟩
     case measure=>simp[intOf];omega
    have FI:(j:Int)<(M:Int):=(by omega);obtain ⟨y,hy⟩:=fy (l:=l) (k:=j) (by rw[qA.o];omega);obtain ⟨g',o',rfl,y1,y2⟩:=Q5.o j y hy;have ow:=aa y2;have HF:=aa (show eh Kq (l.take (j+1))=fE (eh Kq (l.take j)) y.2 ((kh (eh Kq (l.take j)) y.2).1+1) false by rw[oW hy,GG]);have HBP:=aa (show Uz (64*2000+2000) (eh Kq (l.take j)) by
     have h1:=CS (l.take j) fL.o;have h2:(l.take j).length≤2000:=by rw[List.length_take];omega
     exact ⟨by have:=h1.1;omega,fun x hx=>by have:=h1.2 x hx;omega⟩)
    have r2:=ae UA y2;obtain ⟨T,hT⟩:=aG (eh Kq (l.take j));rw[hT] at HF HBP HOI;clear hy y1 y2 hT;obtain ⟨yk,yv⟩:=y;simp only at r2 HF ow;have hgb:=Mt HBP yv;obtain ⟨⟨G,GB⟩,hG⟩:∃G,kh T yv=G:=⟨_,rfl⟩
    rw[hG] at HF hgb;simp only at HF hgb;have RA:=aa hG;clear hG;go_wp2_with fail;refine (zI T yv _ _ HOI).mono ?_;rintro e w3 ⟨rfl,rfl⟩;rw[RA.o];simp only;go_wp2_with fail;refine (zJ T yv (G+1) _ _ HOI (by have:=HBP.1;omega)).mono ?_;rintro e w4 ⟨v4,rfl,hrow,hb⟩;have NN:=aa (eH hrow);have NP:=aV HBI hb;have vX:=aV UA hb;clear hrow hb;go_wp2_with fail;go_roundw
    case rel=>exact ⟨j+1,_,rfl,by omega,by go_num,by rw[HF.o];exact NN.o,NP.o,vX.o⟩
    case measure=>simp[intOf];omega
end Go.Proofs.YtbigkioechkngaaGreat
namespace Go.Proofs.YtbigkioechkngaaGreat
def bitsOf (n:Nat):Nat→List Bool
 |0=>[]
 |w+1=>(n/2 ^ w%2==1)::bitsOf n w
theorem eZ (n:Nat):∀w,(bitsOf n w).length=w
 |0=>rfl
 |w+1=>by rw[bitsOf,List.length_cons,eZ n w]
def wj (l:List Bool):Nat:=l.foldl (fun n b=>2*n+b.toNat) 0
theorem NV (l:List Bool) (b:Bool):wj (l++[b])=2*wj l+b.toNat:=by unfold wj;rw[List.foldl_append];rfl
theorem Mw:∀(l:List Bool) (n:Nat),l.foldl (fun n b=>2*n+b.toNat) n<(n+1)*2 ^ l.length
 |[],n=>by simp
 |b::l,n=>by
  have h:=Mw l (2*n+b.toNat);rw[List.foldl_cons,List.length_cons,Nat.pow_succ];have:(2*n+b.toNat+1)*2 ^ l.length≤(n+1)*(2 ^ l.length*2):=by rw[← Nat.mul_assoc,Nat.mul_right_comm];exact Nat.mul_le_mul_right _ (by cases b <;> simp <;> omega)
  omega
theorem Mx (l:List Bool):wj l<2 ^ l.length:=by have:=Mw l 0;unfold wj;omega
def sQ (b:List Bool) (n width:Int):Option (List Bool):=if 0≤width∧width≤30∧0≤n∧n<2 ^ width.toNat then some (b++bitsOf n.toNat width.toNat) else none
def adx (b:List Bool):Nat:=wj ((b++List.replicate 8 false).take 8)
def tI:Nat→List Bool→List UInt8
 |0,_=>[]
 |n+1,b=>UInt8.ofNat (adx b)::tI n (b.drop 8)
def GL (b:List Bool):List UInt8:=tI ((b.length+7)/8) b
structure jR where
 byte:Int
 yT:Int
 len:Int
deriving DecidableEq
def jW (t:jR):Bool:=if t.len=0∧t.yT=0 then decide (0≤t.byte∧t.byte≤255) else decide (t.byte=0∧1≤t.yT∧t.yT≤255∧3≤t.len∧t.len≤18)
def gF (s:List UInt8) (pos yT n:Nat):Bool:=decide (pos+n≤s.length∧yT≤pos)&&(List.range n).all fun i=>s[pos+i]?==s[pos+i-yT]?
def iX (s:List UInt8) (pos n:Nat):Nat→Nat→Option Nat
 |_,0=>none
 |d,m+1=>if gF s pos d n=true then some d else iX s pos n (d+1) m
def gZ (s:List UInt8) (pos:Nat):Nat→Nat×Nat
 |0=>(0,0)
 |j+1=>match iX s pos (j+3) 1 255 with
  |some d=>(j+3,d)
  |none=>gZ s pos j
def eJ (s:List UInt8) (pos:Nat):Nat×Nat:=if pos<s.length then gZ s pos 16 else (0,0)
theorem xN {s:List UInt8} {pos n:Nat}:∀(m d x:Nat),iX s pos n d m=some x→d≤x∧x<d+m∧gF s pos x n=true
 |0,d,x,h=>by simp[iX] at h
 |m+1,d,x,h=>by
  unfold iX at h
  split at h
  ·rename_i ha;cases h;exact ⟨aT,by omega,ha⟩
  ·obtain ⟨h1,h2,h3⟩:=xN m (d+1) x h;exact ⟨by omega,by omega,h3⟩
theorem CX {s:List UInt8} {pos:Nat}:∀(j:Nat),j≤16→gZ s pos j=(0,0)∨(3≤(gZ s pos j).1∧(gZ s pos j).1≤18∧1≤(gZ s pos j).2∧(gZ s pos j).2≤255∧gF s pos (gZ s pos j).2 (gZ s pos j).1=true)
 |0,_=>.inl rfl
 |j+1,h=>by
  unfold gZ
  split
  ·rename_i d hd
   have:=xN 255 1 d hd;exact .inr ⟨by simp only;omega,by simp only;omega,this.1,by simp only;omega,this.2.2⟩
  ·exact CX j (by omega)
theorem GM (s:List UInt8) (pos:Nat):eJ s pos=(0,0)∨(3≤(eJ s pos).1∧(eJ s pos).1≤18∧1≤(eJ s pos).2∧(eJ s pos).2≤255∧gF s pos (eJ s pos).2 (eJ s pos).1=true):=by
 unfold eJ
 split
 ·exact CX 16 aT
 ·exact .inl rfl
theorem GN {s:List UInt8} {pos d n:Nat} (h:gF s pos d n=true):pos+n≤s.length∧d≤pos:=by unfold gF at h;simp only[Bool.and_eq_true,decide_eq_true_eq] at h;exact h.1
def eK (s:List UInt8) (pos:Nat):List jR:=
 if h:pos<s.length then
  if hp:(eJ s pos).1=0 then ⟨((s[pos]).toNat:Nat),0,0⟩::eK s (pos+1)
  else ⟨0,((eJ s pos).2:Nat),((eJ s pos).1:Nat)⟩::eK s (pos+(eJ s pos).1)
 else []
termination_by s.length-pos
decreasing_by
 ·omega
 ·omega
theorem xO {s:List UInt8} {pos:Nat} (h:pos<s.length) (hp:(eJ s pos).1=0):eK s pos=⟨((s[pos]).toNat:Nat),0,0⟩::eK s (pos+1):=by rw[eK,dif_pos h,dif_pos hp]
theorem xP {s:List UInt8} {pos:Nat} (h:pos<s.length) (hp:¬(eJ s pos).1=0):eK s pos=⟨0,((eJ s pos).2:Nat),((eJ s pos).1:Nat)⟩::eK s (pos+(eJ s pos).1):=by rw[eK,dif_pos h,dif_neg hp]
theorem tJ {s:List UInt8} {pos:Nat} (h:¬pos<s.length):eK s pos=[]:=by rw[eK,dif_neg h]
theorem wk (s:List UInt8):∀(m pos:Nat),s.length-pos≤m→(eK s pos).length≤s.length-pos∧∀t∈eK s pos,jW t=true
 |0,pos,h=>by rw[tJ (by omega)];exact ⟨dQ,by simp⟩
 |m+1,pos,h=>by
  by_cases hl:pos<s.length
  ·by_cases hp:(eJ s pos).1=0
   ·rw[xO hl hp]
    obtain ⟨h1,h2⟩:=wk s m (pos+1) (by omega);refine ⟨by rw[List.length_cons];omega,fun t ht=>?_⟩;rcases List.mem_cons.1 ht with rfl|ht
    ·have:=(s[pos]).toNat_lt
     unfold jW;rw[if_pos ⟨rfl,rfl⟩];simp only[decide_eq_true_eq];omega
    ·exact h2 t ht
   ·rw[xP hl hp]
    rcases GM s pos with e|⟨e1,e2,e3,e4,e5⟩
    ·rw[e] at hp;exact absurd rfl hp
    have:=GN e5;obtain ⟨h1,h2⟩:=wk s m (pos+(eJ s pos).1) (by omega);refine ⟨by rw[List.length_cons];omega,fun t ht=>?_⟩;rcases List.mem_cons.1 ht with rfl|ht
    ·unfold jW
     rw[if_neg (by intro h;have:=h.1;simp only at this;omega)];refine decide_eq_true ⟨rfl,?_,?_,?_,?_⟩ <;> dsimp only <;> omega
    ·exact h2 t ht
  ·rw[tJ hl];exact ⟨dQ,by simp⟩
theorem qN {t:jR} (h:jW t=true):(t.len=0∧t.yT=0∧0≤t.byte∧t.byte≤255)∨(t.byte=0∧1≤t.yT∧t.yT≤255∧3≤t.len∧t.len≤18):=by
 unfold jW at h
 split at h <;> simp only[decide_eq_true_eq] at h
 ·rename_i e;exact .inl ⟨e.1,e.2,h⟩
 ·exact .inr h
end Go.Proofs.YtbigkioechkngaaGreat
namespace Go.Proofs.YtbigkioechkngaaGreat
open Go.RowKit
theorem rj:(Tryz.prog.info? 52).map (fun i=>(i.zero,i.size,i.bytes))=some (some (.agg #[.int .i64 0,.int .i64 0,.int .i64 0,.bool false]),4,32):=by kernel_rfl
theorem kM (p:Option Addr) (n c:Nat) (xs:List Value) (w:World) (hs:iN w p n 4 xs) (hn:n≤1000000000) :
 Calls Tryz.prog 78 #[.slice p n c] w fun e w'=>∃v',e=.returned v'∧w'.ownsRow w.heap.size 52 4 v' n xs∧Bw w w':=by
 obtain ⟨hl,hnil,h1,hx⟩:=hs;cases p with
 |none=>have hq:∀w:World,(binOp .eql 45 (.slice none 0 c) (.slice none 0 0)).run Tryz.prog w=.ok (.bool true) w:=fun w=>Lib.run_eql_slice_nil w 45 52 none 0 c 0 0 Tryz.underlying45;obtain rfl:=hnil rfl;obtain rfl:xs=[]:=List.eq_nil_of_length_eq_zero (by rw[hl,Nat.zero_mul]);clear hnil hx h1 hl hn;go_enter Tryz.func78,Tryz.ntmps78;go_wp2_with fail;go_ret;exact ⟨_,rfl,World.ownsRow_nil _ _ _ _,aH⟩
 |some a=>
  have HX:=aa (hx a rfl);have HL:=aa hl;have H1:=aa h1;have HN:=aa hn;clear hnil hx h1 hl hn;have hq:∀w:World,(binOp .eql 45 (.slice (some a) n c) (.slice none 0 0)).run Tryz.prog w=.ok (.bool false) w:=fun w=>Lib.run_eql_slice_nil w 45 52 (some a) n c 0 0 Tryz.underlying45;obtain ⟨i0,hi,hz0,hz1,hz2⟩:=info_parts rj;have HB:=aa (((Below.refl w.heap.size w).alloc aT (.cells #[] 52)));go_enter Tryz.func78,Tryz.ntmps78;go_wp2_with (at_builtin;refine wpList_append_own _ rfl _ _ 45 rfl w.heap.size 52 i0 (.agg #[.int .i64 0,.int .i64 0,.int .i64 0,.bool false]) 4 32 Tryz.underlying45 hi hz0 hz1 hz2 rfl (by decide) _ 0 [] rfl (World.ownsRow_made w #[] 0 aT (by unfold maxLen;omega) rfl) a n c xs rfl ?_ ?_ ?_ ?_ ?_ ?_ ?_)
  ·exact HL.o
  ·intro j u hu;exact cell_later HB (HX j u hu)
  ·exact H1.o
  ·have:=HN.o;unfold maxLen;omega
  ·have:=HN.o;omega
  ·simp
  ·intro v' w1 hown hg _
   have HO:=aa hown;have HG:=aa hg;clear hown hg;go_wp2_with fail;go_ret;exact ⟨v',rfl,by simpa using HO.o,HB.grown HG (by simp) (fun k e=>by simp[Value.ownBlock] at e;omega)⟩
def pC (B n:Nat) (v:Value) (ys:List Value) (w:World) (e:Ending) (w':World):Prop:=
 ∃v',e=.returned v'∧w'.ownsRow B 52 4 v' (n+1) ys∧w.grownBy w' v.ownBlock
theorem Bf (B n nb:Nat) (v:Value) (xs news:List Value) (w:World) (hown:w.ownsRow B 52 4 v n xs) (kT:w.heap[nb]?=some (.cells news.toArray 52 (0,0))) (rZ:news.length=4) (h1:∀u∈news,u.oneCell'=true) (hn:n≤1000000) (hB:B≤w.heap.size) :
 Calls Tryz.prog 127 #[v,.int .i64 n,.slice (some ⟨nb,0,none⟩) 1 1] w (pC B n v (xs++news) w):=by
 have hx:∀j u,news[j]?=some u→w.cell? ((⟨nb,0,none⟩:Addr).add j)=some u:=by intro j u hu;rw[jS];simp[World.cell?,kT,hu]
 have HX:=aa hx;have HN:=aa hn;have HO:=aa hown;have H1:=aa h1;have HL:=aa rZ;have HB:=aa hB;have aaH:=aK hown;have YI:∀g cap,v=.slice (some ⟨g,0,none⟩) n cap→n≤cap∧cap≤9223372036854775807:=by intro g cap e;subst e;obtain ⟨_,_,_,h4,h5,_⟩:=bp hown;unfold maxLen at h5;exact ⟨h4,by omega⟩
 obtain ⟨i0,hi,hz0,hz1,hz2⟩:=info_parts rj;have as0:n≤9223372036854775807:=by omega
 clear hx hown h1 rZ kT hB hn;rcases aaH with ⟨rfl,rfl,rfl⟩|⟨g,cap,rfl⟩
 ·go_enter Tryz.func127,Tryz.ntmps127
  go_wp2_with (at_builtin;refine wpList_append_own _ rfl _ _ 45 rfl B 52 i0 (.agg #[.int .i64 0,.int .i64 0,.int .i64 0,.bool false]) 4 32 Tryz.underlying45 hi hz0 hz1 hz2 rfl (by decide) _ 0 [] rfl HO.o ⟨nb,0,none⟩ 1 1 news rfl HL.o HX.o H1.o ?_ ?_ HB.o ?_)
  ·unfold maxLen;omega
  ·omega
  ·intro v' w1 hown hg _
   have Mn:=aa hown;have HG:=aa hg;clear hown hg;go_wp2_with fail;go_ret;exact ⟨v',rfl,Mn.o,HG.o⟩
 ·obtain ⟨c1,c2⟩:=YI g cap rfl
  have XL:(n:Int)≤(n:Int):=Int.le_refl _;clear YI;by_cases Rf:n=cap
  ·subst Rf
   go_enter Tryz.func127,Tryz.ntmps127;go_wp2_with (at_builtin;refine wpList_append_own _ rfl _ _ 45 rfl B 52 i0 (.agg #[.int .i64 0,.int .i64 0,.int .i64 0,.bool false]) 4 32 Tryz.underlying45 hi hz0 hz1 hz2 rfl (by decide) _ n xs rfl HO.o ⟨nb,0,none⟩ 1 1 news rfl HL.o HX.o H1.o ?_ ?_ HB.o ?_)
   ·have:=HN.o;unfold maxLen;omega
   ·have:=HN.o;omega
   ·intro v' w1 hown hg _
    have Mn:=aa hown;have HG:=aa hg;clear hown hg;go_wp2_with fail;go_ret;exact ⟨v',rfl,Mn,HG⟩
  ·go_enter Tryz.func127,Tryz.ntmps127
   go_wp2_with (at_builtin;refine wpList_append_own _ rfl _ _ 45 rfl B 52 i0 (.agg #[.int .i64 0,.int .i64 0,.int .i64 0,.bool false]) 4 32 Tryz.underlying45 hi hz0 hz1 hz2 rfl (by decide) _ n xs rfl HO.o ⟨nb,0,none⟩ 1 1 news rfl HL.o HX.o H1.o ?_ ?_ HB.o ?_)
   ·have:=HN.o;unfold maxLen;omega
   ·have:=HN.o;omega
   ·intro v' w1 hown hg _
    have Mn:=aa hown;have HG:=aa hg;clear hown hg;go_wp2_with fail;go_ret;exact ⟨v',rfl,Mn.o,HG.o⟩
theorem ze (B n i nb g cap:Nat) (xs news:List Value) (w:World) (hown:w.ownsRow B 52 4 (.slice (some ⟨g,0,none⟩) n cap) n xs) (kT:w.heap[nb]?=some (.cells news.toArray 52 (0,0))) (rZ:news.length=4) (h1:∀u∈news,u.oneCell'=true) (hx1:∀u∈xs,u.oneCell'=true) (hn:n≤1000000) (hB:B≤w.heap.size) (hi:i<n) (hc:cap<n+1) :
 Calls Tryz.prog 127 #[.slice (some ⟨g,0,none⟩) n cap,.int .i64 i,.slice (some ⟨nb,0,none⟩) 1 1] w (pC B n (.slice (some ⟨g,0,none⟩) n cap) (xs.take (i*4)++news++xs.drop (i*4)) w):=by
 obtain ⟨cur,hg,hBg,UE,_,hsz,Bg⟩:=bp hown;obtain ⟨i0,iP,hz0,hz1,hz2⟩:=info_parts rj;have Lz:(Tryz.prog.info? 52).map (·.size)=some 4:=by rw[iP];simp[hz1]
 obtain rfl:n=cap:=by omega
 have uA:=hown.1;have lq:∀j u,xs[j]?=some u→w.cell? ⟨g,j,none⟩=some u:=fun j u hu=>by have:=hown.cells (g:=g) rfl j u hu;rwa [jS] at this
 have hkk:(n:Int)+1-(i:Int)=((n+1-i:Nat):Int):=by omega
 have hik:i+(n+1-i)=n+1:=by omega
 have Vv:g<w.heap.size:=(Array.getElem?_eq_some_iff.1 hg).1;have hnw:nb<w.heap.size:=(Array.getElem?_eq_some_iff.1 kT).1;have hold:(Builtin.firstCells i0.size i (.slice (some ⟨g,0,none⟩) i n)).run Tryz.prog w.drew=.ok (xs.take (i*4)).toArray w.drew:=by
  rw[hz1];exact run_firstCells_some w.drew 4 i ⟨g,0,none⟩ i n (xs.take (i*4)) (by rw[List.length_take,uA];omega) (fun j v hj=>by
   rw[jS];rw[List.getElem?_take] at hj
   split at hj
   ·exact lq j v hj
   ·cases hj)
 obtain ⟨G,hG⟩:∃G,G=grownCap w (n+1) n 52:=⟨_,rfl⟩
 obtain ⟨ROW,WR⟩:∃ROW:Array Value,ROW=(xs.take (i*4)).toArray++Builtin.zeroCells (.agg #[.int .i64 0,.int .i64 0,.int .i64 0,.bool false]:Value).cells (n+1-i)++Builtin.zeroCells (.agg #[.int .i64 0,.int .i64 0,.int .i64 0,.bool false]:Value).cells (G-(n+1)):=⟨_,rfl⟩
 have hrz:∀ty,(Builtin.append_ #[45,3] ty #[.slice (some ⟨g,0,none⟩) i n,.int .i64 ((n:Int)+1-(i:Int))]).run Tryz.prog w =
  .ok (.slice (some ⟨w.heap.size,0,none⟩) (n+1) G) (w.drew.alloc (.cells ROW 52)):=fun ty=>by
  have h:=Lib.run_append_grow_zeros w 45 3 ty 52 i0 _ .i64 .i64 Tryz.underlying45 Tryz.underlying3 iP hz0 (some ⟨g,0,none⟩) i n (xs.take (i*4)) hold (n+1-i) (by omega) (by rw[hz1];decide) (by omega) (by omega) (by rw[hz2];omega) (by rw[hz2,hik];exact growslice_fits (by omega) (by omega));rw[hik,← hG,← WR] at h;rw[hkk];exact h
 have hGn:n+1≤G:=by rw[hG];exact grownCap_ge w _ _ _
 have aaJ:G≤maxLen:=by rw[hG];exact grownCap_le_maxLen w (n+1) n 52 (by unfold maxLen;omega)
 have hRl:ROW.size=G*4:=by have hz:(.agg #[.int .i64 0,.int .i64 0,.int .i64 0,.bool false]:Value).cells.size=4:=rfl;rw[WR,Array.size_append,Array.size_append,size_zeroCells,size_zeroCells,hz,List.size_toArray,List.length_take,uA];omega
 have hRt:ROW.toList.take (i*4)=xs.take (i*4):=by rw[WR,Array.append_assoc,Array.toList_append,List.take_append_of_le_length (by simp[uA];omega)];simp only[List.take_take,Nat.min_self]
 obtain ⟨A2,LD⟩:∃A2:Array Value,A2=(ROW.toList.take (i*4)++news++ROW.toList.drop (i*4+news.length)).toArray:=⟨_,rfl⟩
 have Cu:A2.size=G*4:=by
  have:ROW.toList.length=G*4:=by simp[hRl]
  rw[LD,List.size_toArray,List.length_append,List.length_append,List.length_take,List.length_drop,this,rZ];omega
 have I6:A2.toList.take ((i+1)*4)=xs.take (i*4)++news:=by
  have:(xs.take (i*4)++news).length=(i+1)*4:=by rw[List.length_append,List.length_take,uA,rZ];omega
  rw[LD,hRt,List.toList_toArray,List.take_append_of_le_length (by omega),List.take_of_length_le (by omega)]
 obtain ⟨A3,Us⟩:∃A3:Array Value,A3=(A2.toList.take ((i+1)*4)++xs.drop (i*4)++A2.toList.drop ((i+1)*4+(xs.drop (i*4)).length)).toArray:=⟨_,rfl⟩
 have xE:(xs.drop (i*4)).length=(n-i)*4:=by rw[List.length_drop,uA];omega
 have Ts:A3.size=G*4:=by
  have:A2.toList.length=G*4:=by simp[Cu]
  rw[Us,List.size_toArray,List.length_append,List.length_append,List.length_take,xE,List.length_drop,this];omega
 have Tt:A3.toList.take ((n+1)*4)=xs.take (i*4)++news++xs.drop (i*4):=by
  have:(xs.take (i*4)++news++xs.drop (i*4)).length=(n+1)*4:=by rw[List.length_append,List.length_append,List.length_take,uA,rZ,xE];omega
  rw[Us,I6,List.toList_toArray,List.take_append_of_le_length (by omega),List.take_of_length_le (by omega)]
 have Tu:∀W:World,W.heap=(w.alloc (.cells ROW 52)).heap→∀ty dc,(Builtin.copy_ #[45,45] ty #[.slice (some ⟨w.heap.size,i*4,none⟩) (n+1-i) dc,.slice (some ⟨nb,0,none⟩) 1 1]).run Tryz.prog W=.ok (goInt 1) (W.setRow w.heap.size A2):=by
  intro W hW ty dc;have:=oT (P:=Tryz.prog) W 45 45 ty 52 4 w.heap.size (i*4) (n+1-i) dc ⟨nb,0,none⟩ 1 1 1 ROW 52 news Tryz.underlying45 Lz (by rw[hW];exact World.alloc_heap_new w _) (by simp only[Nat.min_def];split <;> omega) (by omega)
   (fun j v hj=>by rw[jS];simp only[World.cell?,hW];rw[Below.heap_alloc w _ _ hnw,kT];simpa using hj) (by rw[hRl,rZ];omega) h1
  rw[← LD] at this;exact this
 have Tv:∀W:World,W.heap=((w.alloc (.cells ROW 52)).setRow w.heap.size A2).heap→∀ty dc sc,(Builtin.copy_ #[45,45] ty #[.slice (some ⟨w.heap.size,(i+1)*4,none⟩) (n-i) dc,.slice (some ⟨g,i*4,none⟩) (n-i) sc]).run Tryz.prog W=.ok (goInt (n-i:Nat)) (W.setRow w.heap.size A3):=by
  intro W hW ty dc sc;have:=oT (P:=Tryz.prog) W 45 45 ty 52 4 w.heap.size ((i+1)*4) (n-i) dc ⟨g,i*4,none⟩ (n-i) sc (n-i) A2 52 (xs.drop (i*4)) Tryz.underlying45 Lz (by rw[hW];exact setRow_heap _ _ _ _ _ _ (World.alloc_heap_new w _)) (by simp only[Nat.min_def];split <;> omega) xE
   (fun j v hj=>by
    rw[nI];simp only[World.cell?,hW];rw[setRow_other _ _ _ _ (by omega),Below.heap_alloc w _ _ Vv];have:=lq (i*4+j) v (by rwa [List.getElem?_drop] at hj)
    simpa [World.cell?] using this) (by rw[Cu,xE];omega) (fun v hv=>hx1 v (List.mem_of_mem_drop hv))
  rw[← Us] at this;exact this
 have Z7:=aa hrz;have Pl:=aa Tu;have FQ:=aa Tv;have aaK:=aa Ts;have aaL:=aa Tt;have HGM:=aa aaJ;have apD:G≤9223372036854775807:=by unfold maxLen at aaJ;omega
 have xq:=aa (show B≤w.heap.size∧g<w.heap.size∧n+1≤G from ⟨hB,Vv,hGn⟩);have DJ:=aa (show (xs.take (i*4)++news++xs.drop (i*4)).length=(n+1)*4 by rw[List.length_append,List.length_append,List.length_take,uA,rZ,xE];omega);have hGi:¬(G=i):=by omega
 have alN:¬(G=i+1):=by omega
 have hci:¬(n=i):=by omega
 have pV:i≤n:=by omega
 have hii:(i:Int)<(n:Int):=by omega
 have hz2:¬((i:Int)=(n:Int)):=by omega
 have hz3:(n:Int)<(n:Int)+1:=by omega
 have afZ:(n:Int)≤4611686018427387904:=by omega
 clear Tu Tv hrz Ts Tt Us LD Cu I6 WR hRl hRt hold lq hG aaJ hx1 h1 rZ hown kT hg uA xE iP hz0 hz1 hz2 Lz hsz Bg hik hkk hn hB hBg Vv hnw hGn hc;go_enter Tryz.func127,Tryz.ntmps127;go_wp2_with (at_builtin;refine Lib.wpList_append_run _ rfl _ _ _ _ rfl _ _ rfl rfl _ _ (Z7.o _) ?_);rw[Pl.o (w.alloc (.cells ROW 52)).drew rfl];go_wp2_with fail;have Ut:=FQ.o ((w.alloc (.cells ROW 52)).drew.setRow w.heap.size A2).drew rfl;go_region;go_wp2_with fail;go_ret;refine ⟨.slice (some ⟨w.heap.size,0,none⟩) (n+1) G,rfl,⟨DJ.out,.inr ⟨w.heap.size,G,A3,rfl,xq.out.1,?_,xq.out.2.2,HGM,aaK,aaL⟩⟩,?_⟩
 ·exact setRow_heap _ _ _ _ _ _ (setRow_heap _ _ _ _ _ _ (World.alloc_heap_new w _))
 ·exact aS (below_setRow ((below_setRow (((Below.refl w.heap.size w).alloc aT (.cells ROW 52)).drew) aT _).drew) aT _) _
theorem xu (B n i nb g cap:Nat) (xs news:List Value) (w:World) (hown:w.ownsRow B 52 4 (.slice (some ⟨g,0,none⟩) n cap) n xs) (kT:w.heap[nb]?=some (.cells news.toArray 52 (0,0))) (hne:nb≠g) (rZ:news.length=4) (h1:∀u∈news,u.oneCell'=true) (hx1:∀u∈xs,u.oneCell'=true) (hn:n≤1000000) (hi:i<n) (hc:n+1≤cap) :
 Calls Tryz.prog 127 #[.slice (some ⟨g,0,none⟩) n cap,.int .i64 i,.slice (some ⟨nb,0,none⟩) 1 1] w (pC B n (.slice (some ⟨g,0,none⟩) n cap) (xs.take (i*4)++news++xs.drop (i*4)) w):=by
 obtain ⟨cur,hg,hBg,UE,hcm,hsz,Bg⟩:=bp hown;obtain ⟨i0,iP,hz0,hz1,hz2⟩:=info_parts rj;have Lz:(Tryz.prog.info? 52).map (·.size)=some 4:=by rw[iP];simp[hz1]
 have uA:=hown.1;have lq:∀j u,xs[j]?=some u→w.cell? ⟨g,j,none⟩=some u:=fun j u hu=>by have:=hown.cells (g:=g) rfl j u hu;rwa [jS] at this
 have xE:(xs.drop (i*4)).length=(n-i)*4:=by rw[List.length_drop,uA];omega
 obtain ⟨A2,LD⟩:∃A2:Array Value,A2=(cur.toList.take ((i+1)*4)++xs.drop (i*4)++cur.toList.drop ((i+1)*4+(xs.drop (i*4)).length)).toArray:=⟨_,rfl⟩
 have ql:cur.toList.length=cap*4:=by simp[hsz]
 have Cu:A2.size=cap*4:=by rw[LD,List.size_toArray,List.length_append,List.length_append,List.length_take,xE,List.length_drop,ql];omega
 obtain ⟨A3,Us⟩:∃A3:Array Value,A3=(A2.toList.take (i*4)++news++A2.toList.drop (i*4+news.length)).toArray:=⟨_,rfl⟩
 have Ts:A3.size=cap*4:=by
  have:A2.toList.length=cap*4:=by simp[Cu]
  rw[Us,List.size_toArray,List.length_append,List.length_append,List.length_take,List.length_drop,this,rZ];omega
 have I6:A2.toList.take (i*4)=xs.take (i*4):=by rw[LD,List.toList_toArray,List.append_assoc,List.take_append_of_le_length (by rw[List.length_take,ql];omega),List.take_take,← Bg,List.take_take];congr 1;omega
 have af0:(A2.toList.drop (i*4+news.length)).take ((n-i)*4)=xs.drop (i*4):=by
  have e:i*4+news.length=(i+1)*4:=by rw[rZ];omega
  rw[LD,List.toList_toArray,List.append_assoc,e,List.drop_append_of_le_length (by rw[List.length_take,ql];omega)];rw[List.drop_of_length_le (by rw[List.length_take];omega),List.nil_append,List.take_append_of_le_length (by omega),List.take_of_length_le (by omega)]
 have Tt:A3.toList.take ((n+1)*4)=xs.take (i*4)++news++xs.drop (i*4):=by
  rw[Us,List.toList_toArray,I6,List.take_append,← af0];have e2:(xs.take (i*4)++news).length=(i+1)*4:=by rw[List.length_append,List.length_take,uA,rZ];omega
  rw[List.take_of_length_le (by omega),e2];congr 2;omega
 have Tu:∀W:World,W.heap=w.heap→∀ty dc sc,(Builtin.copy_ #[45,45] ty #[.slice (some ⟨g,(i+1)*4,none⟩) (n-i) dc,.slice (some ⟨g,i*4,none⟩) (n+1-i) sc]).run Tryz.prog W=.ok (goInt (n-i:Nat)) (W.setRow g A2):=by
  intro W hW ty dc sc;have:=oT (P:=Tryz.prog) W 45 45 ty 52 4 g ((i+1)*4) (n-i) dc ⟨g,i*4,none⟩ (n+1-i) sc (n-i) cur 52 (xs.drop (i*4)) Tryz.underlying45 Lz (by rw[hW];exact hg) (by simp only[Nat.min_def];split <;> omega) xE
   (fun j v hj=>by
    rw[nI];simp only[World.cell?,hW];have:=lq (i*4+j) v (by rwa [List.getElem?_drop] at hj)
    simpa [World.cell?] using this) (by rw[hsz,xE];omega) (fun v hv=>hx1 v (List.mem_of_mem_drop hv))
  rw[← LD] at this;exact this
 have Tv:∀W:World,W.heap=(w.setRow g A2).heap→∀ty dc,(Builtin.copy_ #[45,45] ty #[.slice (some ⟨g,i*4,none⟩) (n+1-i) dc,.slice (some ⟨nb,0,none⟩) 1 1]).run Tryz.prog W=.ok (goInt 1) (W.setRow g A3):=by
  intro W hW ty dc;have:=oT (P:=Tryz.prog) W 45 45 ty 52 4 g (i*4) (n+1-i) dc ⟨nb,0,none⟩ 1 1 1 A2 52 news Tryz.underlying45 Lz (by rw[hW];exact setRow_heap _ _ _ _ _ _ hg) (by simp only[Nat.min_def];split <;> omega) (by omega)
   (fun j v hj=>by rw[jS];simp only[World.cell?,hW];rw[setRow_other _ _ _ _ hne,kT];simpa using hj) (by rw[Cu,rZ];omega) h1
  rw[← Us] at this;exact this
 have alO:news.toArray.size=4:=by rw[List.size_toArray];exact rZ
 have hov:∀lb cb,(callFunc 163 #[.slice (some ⟨nb,0,none⟩) 1 1,.slice (some ⟨g,(i+1)*4,none⟩) lb cb]).run Tryz.prog w=.ok (.value (.bool false)) w:=fun lb cb=>by
  rw[run_callFunc_extern Tryz.func163 (by kernel_rfl) (by kernel_rfl) (by kernel_rfl) (e:=Extern.SlicesOverlaps.overlaps #[45,45] #[4]) (by kernel_rfl),
   Lib.run_overlaps_apart w 45 4 52 Tryz.underlying45 4 (fun w=>by simp[sizeOf,typeInfo,iP,hz1]) ⟨nb,0,none⟩ ⟨g,(i+1)*4,none⟩ 1 1 lb cb hne 52 52 4 (cap*4) (by simp[World.shape?,kT,rZ]) (by simp[World.shape?,hg,hsz]) (by omega) (by simp[World.frozen?,kT]) (by simp[World.frozen?,kT])]
  rfl
 have hA:=Tu w.drew rfl;have FQ:=aa Tv;have aaK:=aa Ts;have aaL:=aa Tt;have HG:=aa hg;have DJ:=aa (show (xs.take (i*4)++news++xs.drop (i*4)).length=(n+1)*4 by rw[List.length_append,List.length_append,List.length_take,uA,rZ,xE];omega);have xq:=aa (And.intro hBg (And.intro hc hcm));have hz2:¬((i:Int)=(n:Int)):=by omega
 have hz3:¬(cap:Int)<(n:Int)+1:=by omega
 have afZ:(n:Int)≤4611686018427387904:=by omega
 have alP:cap≤9223372036854775807:=by unfold maxLen at hcm;omega
 have hGi:¬(cap=i):=by omega
 have alN:¬(cap=i+1):=by omega
 have pV:i≤n:=by omega
 have hii:(i:Int)<(n:Int):=by omega
 have hcc:(n:Int)+1≤(cap:Int):=by omega
 clear Tu Tv Ts Tt Us LD Cu I6 af0 lq hx1 h1 rZ hown kT hg uA xE iP hz0 hz1 hz2 Lz hsz Bg hn hBg hc ql hcm alO hne;go_enter Tryz.func127,Tryz.ntmps127;go_wp2_with (simp only[hov]);go_region;go_wp2_with fail;rw[FQ.o (w.drew.setRow g A2) rfl];go_wp2_with fail;go_ret;refine ⟨.slice (some ⟨g,0,none⟩) (n+1) cap,rfl,⟨DJ.out,.inr ⟨g,cap,A3,rfl,xq.out.1,?_,xq.out.2.1,xq.out.2.2,aaK,aaL⟩⟩,?_⟩
 ·exact setRow_heap _ _ _ _ _ _ (setRow_heap _ _ _ _ _ _ HG)
 ·exact aX (aX (tr (kq w _) 1) (iI _ g _)) (iI _ g _)
theorem rq (B n i nb:Nat) (v:Value) (xs news:List Value) (w:World) (hown:w.ownsRow B 52 4 v n xs) (kT:w.heap[nb]?=some (.cells news.toArray 52 (0,0))) (hne:v.ownBlock≠some nb) (rZ:news.length=4) (h1:∀u∈news,u.oneCell'=true) (hx1:∀u∈xs,u.oneCell'=true) (hn:n≤1000000) (hB:B≤w.heap.size) (hi:i≤n) :
 Calls Tryz.prog 127 #[v,.int .i64 i,.slice (some ⟨nb,0,none⟩) 1 1] w (pC B n v (xs.take (i*4)++news++xs.drop (i*4)) w):=by
 by_cases pV:i=n
 ·subst pV
  have e1:xs.take (i*4)=xs:=List.take_of_length_le (by rw[hown.1];exact aT);have e2:xs.drop (i*4)=[]:=List.drop_of_length_le (by rw[hown.1];exact aT);rw[e1,e2,List.append_nil];exact Bf B i nb v xs news w hown kT rZ h1 hn hB
 ·rcases aK hown with ⟨_,Yr,_⟩|⟨g,cap,rfl⟩
  ·omega
  ·by_cases hc:n+1≤cap
   ·exact xu B n i nb g cap xs news w hown kT (fun e=>hne (by rw[e];rfl)) rZ h1 hx1 hn (by omega) hc
   ·exact ze B n i nb g cap xs news w hown kT rZ h1 hx1 hn hB (by omega) (by omega)
theorem Tw:(Tryz.prog.info? 9).map (fun i=>(i.zero,i.size,i.bytes))=some (some (.string ⟨#[]⟩),1,16):=by kernel_rfl
theorem sX (p:Option Addr) (n c:Nat) (xs:List Value) (w:World) (hs:iN w p n 1 xs) (hn:n≤1000000000) :
 Calls Tryz.prog 68 #[.slice p n c] w fun e w'=>∃v',e=.returned v'∧w'.ownsRow w.heap.size 9 1 v' n xs∧Bw w w':=by
 obtain ⟨hl,hnil,h1,hx⟩:=hs;cases p with
 |none=>have hq:∀w:World,(binOp .eql 22 (.slice none 0 c) (.slice none 0 0)).run Tryz.prog w=.ok (.bool true) w:=fun w=>Lib.run_eql_slice_nil w 22 9 none 0 c 0 0 Tryz.underlying22;obtain rfl:=hnil rfl;obtain rfl:xs=[]:=List.eq_nil_of_length_eq_zero (by rw[hl,Nat.zero_mul]);clear hnil hx h1 hl hn;go_enter Tryz.func68,Tryz.ntmps68;go_wp2_with fail;go_ret;exact ⟨_,rfl,World.ownsRow_nil _ _ _ _,aH⟩
 |some a=>
  have HX:=aa (hx a rfl);have HL:=aa hl;have H1:=aa h1;have HN:=aa hn;clear hnil hx h1 hl hn;have hq:∀w:World,(binOp .eql 22 (.slice (some a) n c) (.slice none 0 0)).run Tryz.prog w=.ok (.bool false) w:=fun w=>Lib.run_eql_slice_nil w 22 9 (some a) n c 0 0 Tryz.underlying22;obtain ⟨i0,hi,hz0,hz1,hz2⟩:=info_parts Tw;have HB:=aa (((Below.refl w.heap.size w).alloc aT (.cells #[] 9)));go_enter Tryz.func68,Tryz.ntmps68;go_wp2_with (at_builtin;refine wpList_append_own _ rfl _ _ 22 rfl w.heap.size 9 i0 (.string ⟨#[]⟩) 1 16 Tryz.underlying22 hi hz0 hz1 hz2 rfl (by decide) _ 0 [] rfl (World.ownsRow_made w #[] 0 aT (by unfold maxLen;omega) rfl) a n c xs rfl ?_ ?_ ?_ ?_ ?_ ?_ ?_)
  ·exact HL.o
  ·intro j u hu;exact cell_later HB (HX j u hu)
  ·exact H1.o
  ·have:=HN.o;unfold maxLen;omega
  ·have:=HN.o;omega
  ·simp
  ·intro v' w1 hown hg _
   have HO:=aa hown;have HG:=aa hg;clear hown hg;go_wp2_with fail;go_ret;exact ⟨v',rfl,by simpa using HO.o,HB.grown HG (by simp) (fun k e=>by simp[Value.ownBlock] at e;omega)⟩
def rI (Q:Exit→Act→World→Prop):Exit→Act→World→Prop
 |.normal,a,w=>Q .normal a w
 |_,_,_=>False
theorem T9 {Q:Exit→Act→World→Prop}:¬LetsOut (rI Q):=fun ⟨_,_,h⟩=>h
theorem CC {l n:Nat} {P:Program} {f:FuncId} {args:Array Value} {w:World} {R:Ending→World→Prop}:CallsIn (Fence.wide.inRound l) n P f args w R↔Calls P f args w R:=
 callsIn_wide (n:=n)
theorem Fw {l n:Nat} {P:Program} {row:String} {args:Array Value} {w:World} {R:Value→World→Prop} (h:Rows P row args w R):RowsIn (Fence.wide.inRound l) n P row args w R:=
 fun c cs _=>let ⟨v,w',r,s⟩:=h c cs;⟨v,w',r,stepsIn_wide.2 s⟩
def vD (ops:Array Oper):Bool:=ops.all fun o=>match o.op with | .defer _=>false|_=>true
theorem Fx {ops:Array Oper} (h:vD ops=true) {i:Nat} {o:Oper} (hi:ops[i]?=some o):∀c,o.op≠.defer c:=by unfold vD at h;rw[Array.all_eq_true] at h;obtain ⟨hlt,hx⟩:=Array.getElem?_eq_some_iff.1 hi;have:=h i hlt;rw[hx] at this;intro c e;rw[e] at this;cases this
theorem P6 {l n:Nat} {P:Program} {ops:Array Oper} {Q:Exit→Act→World→Prop} (hd:vD ops=true) (hQ:¬LetsOut Q) {i:Nat} {K:Act→World→Prop} {a:Act} {w:World} (h:wpOp P ops Q i K a w):wpOpIn (Fence.wide.inRound l) n P ops Q i K a w:=by
 unfold wpOp at h;unfold wpOpIn;cases ho:ops[i]? with
 |none=>rw[ho] at h;exact h
 |some o=>
  rw[ho] at h;simp only at h ⊢;by_cases hw:Region.wanted o (yielded ops a.tmps)=true
  ·rw[if_pos hw] at h ⊢
   rcases h with h|⟨_,h⟩
   ·refine ⟨fun _ _=>trivial,?_⟩
    unfold Oper.wp at h;rw[Oper.semAt_eq _ _ _ (Fx hd ho)]
    generalize (execOp a.eval o).run P w=r at *
    cases r with
    |ok x w'=>
     cases x <;> simp only[Oper.upon,Oper.uponIn] at h ⊢
     case value u=>exact h
     case skip=>exact h
     case defer d=>exact h
     case enter f args=>exact ⟨fun h2=>(by cases h2),CC.2 h⟩
     case row row args=>exact ⟨fun h2=>(by cases h2),Fw h⟩
    |halt x w'=>cases x <;> simp only[Oper.upon,Oper.uponIn] at h ⊢ <;> exact h
   ·exact absurd h hQ
  ·rw[if_neg hw] at h ⊢
   exact ⟨fun _ _=>trivial,h⟩
theorem BJ {l n:Nat} {P:Program} {md:Region.Mode} {ops:Array Oper} {Q:Exit→Act→World→Prop} (hd:vD ops=true) (hQ:¬LetsOut Q):∀(fuel:Nat) (listed:Array Bool) (a:Act) (w:World),wpAny P md ops Q fuel listed a w→wpAnyIn (Fence.wide.inRound l) n P md ops Q fuel listed a w
 |0,_,_,_,h=>h
 |fuel+1,_listed,_a,_w,h=>⟨h.1,fun i hi=>P6 hd hQ (wpOp_mono (fun a w h=>BJ hd hQ fuel _ a w h) (h.2 i hi))⟩
theorem gq {l n:Nat} {P:Program} {id:Nat} {ops:Array Oper} {Q:Exit→Act→World→Prop} {S:World→Prop} {a:Act} {w:World} (hm:P.follows .mixedOrders=true) (hd:vD ops=true) (hS:S w.drew)
 (h:S w.drew→wpAnyH P .any ops (rI Q) S ops.size (Array.replicate ops.size false) a w.drew):(Code.region id ops true).wpIn (Fence.wide.inRound l) n P Q a w:=
 wpIn_mono (Q:=rI Q) (wpIn_region_any hm (BJ hd T9 _ _ _ _ (wpAny_of_held _ _ _ _ (h hS)))) fun e a w h=>by cases e <;> first|exact h|exact h.elim
theorem xz {n:Nat} {P:Program} {id:Nat} {ops:Array Oper} {Q:Exit→Act→World→Prop} {S:World→Prop} {a:Act} {w:World} (hm:P.follows .mixedOrders=true) (hS:S w.drew)
 (h:S w.drew→wpAnyH P .any ops (rI Q) S ops.size (Array.replicate ops.size false) a w.drew):(Code.region id ops true).wpIn Fence.wide n P Q a w:=
 wpIn_mono (Q:=rI Q) (wpIn_wide.2 (wp_region_held hm (h hS))) fun e a w h=>by cases e <;> first|exact h|exact h.elim
end Go.Proofs.YtbigkioechkngaaGreat
namespace Go.Proofs.YtbigkioechkngaaGreat
open Go.RowKit Go.ChangeShapes Go.WideShapes Go.Deep
section
variable {H:Type} {enc:TypeId×Value→H} {P:Program} {w:World} {base:Nat} {spare:Nat→Bool} {held:Bool}
theorem iG {t e k:Nat} {fuel:Nat} {v:Value} {x:DataW H×List MemPlace} (ht:P.underlying t=some (.slice e)) (hC:P.cellsOf e=k) (hk:0<k) (h:DataW.trod enc P w base spare held fuel t [v]=some x) :
 v=.slice none 0 0∨∃(g o len cap n:Nat),fuel=n+1∧(v=.slice (some ⟨g,o,none⟩) len cap∨len=0∧∃a,v=.slice (some a) 0 cap)∧len≤cap∧cap≤maxLen ∧
  ∀i,i<len→∃cs:List Value,cs.length=k∧(∀(j:Nat) u,cs[j]?=some u→w.cell? ⟨g,o+(i*k+j),none⟩=some u)∧∃y,DataW.trod enc P w base spare held n e cs=some y:=by
 rcases DataW.trod_slice ht h with h0|⟨a,len,cap,elems,rest,n,hf,hcs,hx,hb,hl,hm,hlen,hel,_,_⟩
 ·left;exact List.head_eq_of_cons_eq h0.1
 ·right
  have hv:v=.slice (some a) len cap:=List.head_eq_of_cons_eq hcs;have key:∀i,i<len→∃cs:List Value,cs.length=k∧(∀(j:Nat) u,cs[j]?=some u→w.cell? (a.add (i*k+j))=some u)∧∃y,DataW.trod enc P w base spare held n e cs=some y:=by intro i hi;have h1:=hel i hi;rw[List.getElem?_eq_getElem (by omega),Option.bind_eq_some_iff] at h1;obtain ⟨cs,hc,hy⟩:=h1;rw[hC] at hc;obtain ⟨_,ql,hat⟩:=World.cells?_some hc;refine ⟨cs,ql,fun j u hu=>?_,_,hy⟩;have hj:=(List.getElem?_eq_some_iff.1 hu).1;rw[← Go.Deep.add_add,hat j (by omega),hu]
  obtain ⟨b,o,sp⟩:=a;by_cases h0:0<len
  ·obtain ⟨cs,ql,hat,_⟩:=key 0 h0
   have hspot:sp=none:=by
    have:=hat 0 cs[0] (List.getElem?_eq_getElem (by omega))
    simpa [Addr.add] using World.cell?_spot this
   subst hspot;refine ⟨b,o,len,cap,n,hf,.inl hv,hl,hm,fun i Mr=>?_⟩;obtain ⟨cs,ql,hat,hy⟩:=key i Mr;exact ⟨cs,ql,fun j u hu=>by have:=hat j u hu;rw[Go.WideShapes.add_plain] at this;exact this,hy⟩
  ·obtain rfl:len=0:=by omega
   exact ⟨b,o,0,cap,n,hf,.inr ⟨rfl,_,hv⟩,hl,hm,fun i Mr=>absurd Mr (by omega)⟩
theorem cB {fs:Array Field} {cs:List Value} {xs:List (DataW H×List MemPlace)} {n j T off k:Nat} (hj:(fs[j]?).map (fun f=>(f.type,f.offset))=some (T,off)) (hC:P.cellsOf T=k)
 (hf:∀(i:Nat) (f:Field),fs[i]?=some f→DataW.trod enc P w base spare held n f.type ((cs.drop f.offset).take (P.cellsOf f.type))=xs[i]?):DataW.trod enc P w base spare held n T ((cs.drop off).take k)=xs[j]?:=by
 rw[Option.map_eq_some_iff] at hj;obtain ⟨f,hf1,hf2⟩:=hj;simp only[Prod.mk.injEq] at hf2;have:=hf j f hf1;rw[hf2.1,hf2.2,hC] at this;exact this
theorem nH {α:Type} (n:Nat) (p:Nat→α→Prop) (h:∀i,i<n→∃x,p i x):∃l:List α,l.length=n∧∀i x,l[i]?=some x→p i x:=by
 induction n with
 |zero=>exact ⟨[],rfl,fun i x hx=>by simp at hx⟩
 |succ n ih=>
  obtain ⟨l,hl,hp⟩:=ih fun i hi=>h i (by omega);obtain ⟨x,hx⟩:=h n (by omega);refine ⟨l++[x],by simp[hl],fun i y hy=>?_⟩;by_cases hi:i<n
  ·rw[List.getElem?_append_left (by omega)] at hy;exact hp i y hy
  ·rw[List.getElem?_append_right (by omega)] at hy
   cases hj:i-l.length with
   |zero=>
    rw[hj] at hy;simp only[List.getElem?_cons_zero,Option.some.injEq] at hy;subst hy;obtain rfl:i=n:=by omega
    exact hx
   |succ j=>rw[hj] at hy;simp at hy
end
section
variable {H:Type} {enc:TypeId×Value→H} {w:World} {spare:Nat→Bool} {held:Bool}
theorem BP {n:Int} (h:(Lit.int .i64 n).wf=true):aP n:=by
 have h2:IntKind.min .i64≤n∧n≤IntKind.max .i64:=by simpa [Lit.wf] using h
 have e1:IntKind.min .i64 = -9223372036854775808:=by decide
 have e2:IntKind.max .i64=9223372036854775807:=by decide
 rwa [e1,e2] at h2
theorem mU {n:Nat} {u:Value} {y:DataW H×List MemPlace} (h:DataW.trod enc Tryz.prog w 0 spare held n 3 [u]=some y):∃z:Int,u=.int .i64 z∧aP z:=by obtain ⟨z,e,_,b⟩:=DataW.trod_int Tryz.underlying3 h;exact ⟨z,List.head_eq_of_cons_eq e,BP b⟩
theorem gK:Tryz.prog.cellsOf 3=1:=by kernel_rfl
theorem BQ:Tryz.prog.cellsOf 73=3:=by kernel_rfl
theorem Qj:Tryz.prog.cellsOf 75=5:=by kernel_rfl
theorem BR:Tryz.prog.cellsOf 70=1:=by kernel_rfl
theorem JB:Tryz.prog.cellsOf 71=1:=by kernel_rfl
theorem Nh {n:Nat} {v:Value} {y:DataW H×List MemPlace} (h:DataW.trod enc Tryz.prog w 0 spare held n 70 [v]=some y):∃l,fD w v l:=by
 rcases iG Tryz.underlying70 gK (by omega) h with h0|⟨g,o,len,cap,n',_,hv,hl,hm,hf⟩
 ·exact ⟨[],none,0,h0,aT,dQ,fun i d hd=>by simp at hd⟩
 ·obtain ⟨l,pL,hp⟩:=nH len (fun i (z:Int)=>aP z∧w.cell? ⟨g,o+i,none⟩=some (.int .i64 z)) (fun i hi=>by
   obtain ⟨cs,ql,hat,y',hy⟩:=hf i hi
   match cs,ql with
   |[u],_=>
    obtain ⟨z,rfl,hz⟩:=mU hy;exact ⟨z,hz,by have:=hat 0 _ rfl;rw[Nat.mul_one,Nat.add_zero] at this;exact this⟩)
  rcases hv with hv|⟨h0,a,hv⟩
  ·exact ⟨l,_,cap,by rw[pL];exact hv,by rw[pL];exact hl,hm,fun i z hz=>⟨(hp i z hz).1,g,o,rfl,(hp i z hz).2⟩⟩
  ·subst h0
   obtain rfl:l=[]:=List.eq_nil_of_length_eq_zero pL;exact ⟨[],_,cap,hv,dQ,hm,fun i d hd=>by simp at hd⟩
theorem Qk:∀(n:Nat) (a b c:Value) (y:DataW H×List MemPlace),DataW.trod enc Tryz.prog w 0 spare held n 73 [a,b,c]=some y→∃t,bw w t a b c:=by
 intro n
 induction n using Nat.strongRecOn with
 |_ n ih=>
  intro a b c y h;obtain ⟨xs,m,rfl,_,_,hlen,hf⟩:=DataW.trod_struct Tryz.underlying73 h;have h0:=cB (j:=0) (T:=70) (off:=0) rfl BR hf;have h1:=cB (j:=1) (T:=70) (off:=1) rfl BR hf;have h2:=cB (j:=2) (T:=71) (off:=2) rfl JB hf;have Cj:DataW.trod enc Tryz.prog w 0 spare held m 70 [a]=xs[0]?:=h0;have JC:DataW.trod enc Tryz.prog w 0 spare held m 70 [b]=xs[1]?:=h1;have CJ:DataW.trod enc Tryz.prog w 0 spare held m 71 [c]=xs[2]?:=h2;have B5:xs.length=3:=hlen;rw[List.getElem?_eq_getElem (by omega)] at Cj JC CJ;obtain ⟨ks,QH⟩:=Nh Cj;obtain ⟨vs,VF⟩:=Nh JC;have Gh:∃l,Er w c l:=by
   rcases iG Tryz.underlying71 BQ (by omega) CJ with h0|⟨g,o,len,cap,n',XR,hv,hl,hm,hf⟩
   ·exact ⟨[],none,0,h0,aT,dQ,fun i d hd=>by simp at hd⟩
   ·obtain ⟨l,pL,hp⟩:=nH len (fun i (t:ag)=>qx w (some ⟨g,o,none⟩) i t) (fun i hi=>by
     obtain ⟨cs,ql,hat,y',hy⟩:=hf i hi
     match cs,ql with
     |[x,y,z],_=>
      obtain ⟨t,ht⟩:=ih n' (by omega) x y z _ hy;exact ⟨t,g,o,x,y,z,rfl,hat 0 _ rfl,hat 1 _ rfl,hat 2 _ rfl,ht⟩)
    rcases hv with hv|⟨h0,a,hv⟩
    ·exact ⟨l,_,cap,by rw[pL];exact hv,by rw[pL];exact hl,hm,hp⟩
    ·subst h0
     obtain rfl:l=[]:=List.eq_nil_of_length_eq_zero pL;exact ⟨[],_,cap,hv,dQ,hm,fun i d hd=>by simp at hd⟩
  obtain ⟨kids,Gh⟩:=Gh;exact ⟨.mk ks vs kids,bD.2 ⟨QH,VF,Gh⟩⟩
theorem Uf {n:Nat} {cs:List Value} {y:DataW H×List MemPlace} (hl:cs.length=5) (h:DataW.trod enc Tryz.prog w 0 spare held n 75 cs=some y):∃(d:dy) (a b c:Value),cs=[.int .i64 d.id,.int .i64 d.size,a,b,c]∧aP d.id∧aP d.size∧bw w d.map a b c:=by
 match cs,hl with
 |[c0,c1,a,b,c],_=>obtain ⟨xs,m,rfl,_,_,hlen,hf⟩:=DataW.trod_struct Tryz.underlying75 h;have h0:=cB (j:=0) (T:=3) (off:=0) rfl gK hf;have h1:=cB (j:=1) (T:=3) (off:=1) rfl gK hf;have h2:=cB (j:=2) (T:=73) (off:=2) rfl BQ hf;have Cj:DataW.trod enc Tryz.prog w 0 spare held m 3 [c0]=xs[0]?:=h0;have JC:DataW.trod enc Tryz.prog w 0 spare held m 3 [c1]=xs[1]?:=h1;have CJ:DataW.trod enc Tryz.prog w 0 spare held m 73 [a,b,c]=xs[2]?:=h2;have B5:xs.length=3:=hlen;rw[List.getElem?_eq_getElem (by omega)] at Cj JC CJ;obtain ⟨i,rfl,hi⟩:=mU Cj;obtain ⟨s,rfl,hs⟩:=mU JC;obtain ⟨t,ht⟩:=Qk _ _ _ _ _ CJ;exact ⟨⟨i,s,t⟩,a,b,c,rfl,hi,hs,ht⟩
theorem Ql {n:Nat} {v:Value} {y:DataW H×List MemPlace} (h:DataW.trod enc Tryz.prog w 0 spare held n 27 [v]=some y):∃l,eU w v l:=by
 rcases iG Tryz.underlying27 Qj (by omega) h with h0|⟨g,o,len,cap,n',_,hv,hl,hm,hf⟩
 ·exact ⟨[],none,0,h0,aT,dQ,fun i d hd=>by simp at hd⟩
 ·obtain ⟨l,pL,hp⟩:=nH len (fun i (d:dy)=>aP d.id∧aP d.size∧∃a b c,w.cell? ⟨g,o+i*5,none⟩=some (.int .i64 d.id)∧w.cell? ⟨g,o+i*5+1,none⟩=some (.int .i64 d.size)∧w.cell? ⟨g,o+i*5+2,none⟩=some a∧w.cell? ⟨g,o+i*5+3,none⟩=some b∧w.cell? ⟨g,o+i*5+4,none⟩=some c∧bw w d.map a b c) (fun i hi=>by
   obtain ⟨cs,ql,hat,y',hy⟩:=hf i hi;obtain ⟨d,a,b,c,rfl,h1,h2,h3⟩:=Uf ql hy;exact ⟨d,h1,h2,a,b,c,hat 0 _ rfl,hat 1 _ rfl,hat 2 _ rfl,hat 3 _ rfl,hat 4 _ rfl,h3⟩)
  rcases hv with hv|⟨h0,a,hv⟩
  ·refine ⟨l,_,cap,by rw[pL];exact hv,by rw[pL];exact hl,hm,fun i d hd=>?_⟩
   obtain ⟨h1,h2,a,b,c,h3⟩:=hp i d hd;exact ⟨h1,h2,g,o,a,b,c,rfl,h3⟩
  ·subst h0
   obtain rfl:l=[]:=List.eq_nil_of_length_eq_zero pL;exact ⟨[],_,cap,hv,dQ,hm,fun i d hd=>by simp at hd⟩
end
end Go.Proofs.YtbigkioechkngaaGreat
