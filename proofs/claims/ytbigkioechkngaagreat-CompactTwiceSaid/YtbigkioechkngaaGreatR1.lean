/- The proof, part 2. -/
import Derived.RangeFuncWrites
import Derived.RangeFuncBox
import Derived.RangeFuncLeaves
import Derived.Maps.AppendAt
import Derived.OwnWalkIn
import Derived.Test.YtbigkioechkngaaGreatR0
import Derived.RangeFuncNested
import Derived.RangeFuncBound
import Derived.RangeFuncCalls
import Derived.Shelf.Abstract
import Derived.Shelf.RegionOpen
import Derived.TacticsInMore
import Derived.LoopNIn
import Derived.LoopIn
import Derived.Outline
import Derived.Laws.Rows
import Derived.Test.YtbigkioechkngaaGreatProg
import Derived.RegionIn
import Derived.Deep.Slices
import Derived.Deep.Fields
import Derived.ChangeSame
import Derived.OpenShut
set_option maxRecDepth 100000
set_option maxHeartbeats 8000000
namespace Go.Proofs.YtbigkioechkngaaGreat
open Go.RowKit Tryz
variable {M:Nat→Prop}{P:Program}{A B:World}
theorem lh {F:Fence} {n:Nat} (w:World) {ops:Array Oper} {rest:List Oper} {o:Oper} {a:Act} {Q:Exit→Act→World→Prop} (hg:o.guard=none) (s x:Operand) (t:TypeId)
 (hop:o.op=Op.call {callee:=Callee.builtin Builtin.append,args := #[s,x],argTypes := #[t,t]}) (v u:Value) (hs:a.eval s=v) (hx:a.eval x=u) (v':Value) (w':World) (hrun:(Builtin.append_ #[t,t] o.type #[v,u]).run P w=.ok v' w')
 (h:wpListIn F n P ops Q rest (a.put o.dst v') w'):wpListIn F n P ops Q (o::rest) a w:=by
 refine wpListIn_plain hg fun K hK'=>?_;unfold Oper.wpIn;refine ⟨?_,?_⟩
 ·simp[Oper.about,hop,resolve,Target.leads,Sem.run_pure]
 ·rw[Oper.semAt_plain F _ _ (by rw[hop];intro c hc';cases hc')]
  simp[execOp,hop,resolve,invoke,builtin,hs,hx,hrun,Result.andThen];exact hK' _ _ h
theorem room_wide (k:Nat):Fence.wide.room k:=fun d h=>by cases h
theorem F7 {m m':Nat} {l:Nat} {f:FuncId} {tmps:Array Value} {assign body:Code} {w:World} {R:Ending→World→Prop}
 (h:RoundIn Fence.wide m P l f tmps assign body w R):RoundIn Fence.wide m' P l f tmps assign body w R:=⟨h.1,fun c cs _=>h.2 c cs (room_wide _)⟩
theorem F8 {m:Nat} (m':Nat) {l:Nat} {args:Array Value} {W:World} {R:Ending→World→Prop} (h:YieldAt Fence.wide m P l args W R):YieldAt Fence.wide m' P l args W R:=by obtain ⟨fn,tmps,assign,body,hy,hR⟩:=h;exact ⟨fn,tmps,assign,body,hy,F7 hR⟩
def fp (M:Nat→Prop) (A B:World):Prop:=A.heap.size≤B.heap.size∧∀b,M b→b<A.heap.size→B.heap[b]?=A.heap[b]?
theorem fp.refl (M:Nat→Prop) (A:World):fp M A A:=⟨aT,fun _ _ _=>rfl⟩
theorem fp.trans {C:World} (h:fp M A B) (k:fp M B C):fp M A C:=⟨Nat.le_trans h.1 k.1,fun b hm hb=>(k.2 b hm (Nat.lt_of_lt_of_le hb h.1)).trans (h.2 b hm hb)⟩
theorem fp.less {M':Nat→Prop} (h:fp M A B) (hm:∀b,M' b→M b):fp M' A B:=⟨h.1,fun b hb=>h.2 b (hm b hb)⟩
theorem fp.grown {row:Option Nat} (h:A.grownBy B row) (hr:∀r,row=some r→¬M r):fp M A B:=⟨h.size,fun b hm hb=>h.block b hb (fun e=>hr b e.symm hm)⟩
theorem fp.cell (h:fp M A B) {a:Addr} {v:Value} (hm:M a.block) (hc:A.cell? a=some v):B.cell? a=some v:=(World.cell?_of_block (h.2 a.block hm (World.block_lt_of_cell? A a hc))).trans hc
def New (M M':Nat→Prop) (A B:World):Prop:=∀b,M' b→M b∨(A.heap.size≤b∧b<B.heap.size)
def M9 {α:Type} (n:Nat) (P:Program) (g:Nat) (lb:Array Value) (Na:α→Array Value) (M₀:Nat→Prop) (L:List α) (w:World):Prop:=
 ∀(l:Nat) (J:(Nat→Prop)→List α→World→Prop) (Jx:List α→World→Prop) (W:World),Bw w W →
  (∀M M' s A B,J M s A→A.grownBy B none→New M M' A B→J M' s B)→(∀s A B,Jx s A→A.grownBy B none→Jx s B) →
  (∀m M pre x W1,J M pre W1→pre++[x] <+: L→YieldAt Fence.wide m P l (Na x) W1 fun e W'=>(e=.returned (.bool true)∧J M (pre++[x]) W'∧fp M W1 W')∨(e=.returned (.bool false)∧Jx (pre++[x]) W')) →
  J M₀ [] W→CallsIn Fence.wide n P g (#[.func (.yield l) #[] #[]]++lb) W fun e W'=>(∃v,e=.returned v)∧((∃M,J M L W')∨(∃pre,pre <+: L∧Jx pre W'))
def acA {α:Type} (M:Nat→Prop) (B:Nat) (I:(Nat→Prop)→List α→World→Prop) (Ix:Code→List α→World→Prop) (xs:List α) (W:World):Exit→Act→World→Prop
 |.normal,_,W'=>KeepsFrom B W W'∧fp M W W'∧I M xs W'
 |.ret,_,W'=>KeepsFrom B W W'∧Ix .ret xs W'
 |.exit id,_,W'=>KeepsFrom B W W'∧Ix (.exit id) xs W'
 |.goto t,_,W'=>KeepsFrom B W W'∧Ix (.goto t) xs W'
 |.panic _,_,_=>False
 |.outgrown,_,_=>False
theorem ij {α:Type} {n:Nat} {g:Operand} {ps:Array Tmp} {assign body:Code} {Q:Exit→Act→World→Prop} {a:Act} {w:World}
 (h1:1≤n) {gf:Nat} {lb:Array Value} (hg:a.eval g=.func (.func gf) #[] lb) (eg:∀args w,(callFunc gf args).run P w=.ok (.enter gf args) w)
 {Na:α→Array Value} {M₀:Nat→Prop} {L:List α} (hseq:M9 (n-1) P gf lb Na M₀ L w) (hM:∀b,M₀ b→b<w.heap.size) (hps:∀x,(Na x).size=ps.size)
 (I:(Nat→Prop)→List α→World→Prop) (Ix:Code→List α→World→Prop)
 (hI1:∀M M' s A B,I M s A→A.grownBy B none→New M M' A B→I M' s B) (hI2:∀M s A B r o,I M s A→A.grownBy B (some r)→w.heap.size≤r→A.heap[r]?=some o→o.isCells=false→I M s B)
 (hX1:∀c s A B,Ix c s A→A.grownBy B none→Ix c s B) (hX2:∀c s A B r o,Ix c s A→A.grownBy B (some r)→w.heap.size≤r→A.heap[r]?=some o→o.isCells=false→Ix c s B)
 (h0:I M₀ [] w) (Ax:(Nat→Prop)→α→Act→World→Prop) (hAx:∀M x a' A B r o,Ax M x a' A→A.grownBy B (some r)→w.heap.size≤r→A.heap[r]?=some o→o.isCells=false→Ax M x a' B)
 (U3:∀(l:Nat) (M:Nat→Prop) (pre:List α) (x:α) (W:World) (K:Act→World→Prop),I M pre W→(∀a' W',W.grownBy W' none→Ax M x a' W'→K a' W') →
  assign.wpIn (Fence.wide.inRound l) (n-1-1) P (Exit.then K (fun _ _ _=>False)) {tmps:=(ps.zip (Na x)).foldl (fun t (p,v)=>t.setIfInBounds p v) a.tmps,defers:=[]} W)
 (acC:∀(l:Nat) (M:Nat→Prop) (pre:List α) (x:α) (a':Act) (W:World),I M pre W→Ax M x a' W→pre++[x] <+: L→body.wpIn (Fence.wide.inRound l) (n-1-1) P (acA M w.heap.size I Ix (pre++[x]) W) a' W)
 (hdone:∀(D:Nat) (M:Nat→Prop) (W:World),w.heap.size≤D→I M L W→W.heap[D]?=some (.deferred (some []))→Q .normal {a with defers:={target:=.collected D,args := #[]}::a.defers} W)
 (xj:∀(D:Nat) (c:Code) (pre:List α) (W:World),w.heap.size≤D→pre <+: L→Ix c pre W→W.heap[D]?=some (.deferred (some []))→c.wpIn Fence.wide n P Q {a with defers:={target:=.collected D,args := #[]}::a.defers} W) :
 (Code.rangeFunc g ps assign body).wpIn Fence.wide n P Q a w:=by
 refine wpIn_rangeFunc fun fn hfn=>?_;obtain ⟨rec,BP⟩:∃rec:LoopState→Option Code→Loop,rec=fun st pe=>{state:=st,pending:=pe,fn,tmps:=a.tmps,params:=ps,assign,body,defers:=w.heap.size}:=⟨_,rfl⟩
 obtain ⟨W1,hW1⟩:=aG ((w.alloc (.deferred (some []))).alloc (.loop (rec .ready none)));have hL1:W1.heap[w.heap.size+1]?=some (.loop (rec .ready none)):=by rw[← hW1];have:=World.alloc_heap_new (w.alloc (.deferred (some []))) (.loop (rec .ready none));rwa [World.size_alloc] at this
 have hK1:W1.heap[w.heap.size]?=some (.deferred (some [])):=by rw[← hW1];exact (Below.heap_alloc _ _ _ (by simp)).trans (World.alloc_heap_new w _)
 have U2:w.grownBy W1 none:=by rw[← hW1];exact (World.grownBy_alloc _ _ _).trans (World.grownBy_alloc _ _ _)
 have aiD:I M₀ [] W1:=hI1 M₀ M₀ [] w W1 h0 U2 (fun b hb=>.inl hb);have hB1:Bw w W1:=by rw[← hW1];exact ((Below.refl _ w).alloc aT _).alloc (by simp) _
 refine ⟨w.heap.size+1,[{target:=.collected w.heap.size,args := #[]}],W1,{target:=.fn (.func gf) lb,args := #[.func (.yield (w.heap.size+1)) #[] #[]]},W1,gf,
  #[.func (.yield (w.heap.size+1)) #[] #[]]++lb,W1,?_,?_,fun _ _=>trivial,?_,fun _=>h1,?_⟩
 ·rw[← hW1,BP];exact run_enterLoop_outer _ _ _ _ _
 ·simp only[resolve,hg]
  simp[go_sem]
 ·simp[invoke,go_sem,eg]
 refine (hseq (w.heap.size+1)
  (fun M pre W=>I M pre W∧W.heap[w.heap.size+1]?=some (.loop (rec .ready none))∧W.heap[w.heap.size]?=some (.deferred (some []))∧¬M (w.heap.size+1)∧¬M w.heap.size)
  (fun pre W=>∃c,Ix c pre W∧W.heap[w.heap.size+1]?=some (.loop (rec .done (some c)))∧W.heap[w.heap.size]?=some (.deferred (some [])))
  W1 hB1 ?_ ?_ ?_ ⟨aiD,hL1,hK1,fun h=>by have:=hM _ h;omega,fun h=>by have:=hM _ h;omega⟩).mono ?_
 ·rintro M M' s A B ⟨k1,k2,k3,k4,k5⟩ hgr hn
  have lt2:=(Array.getElem?_eq_some_iff.1 k2).1;have lt3:=(Array.getElem?_eq_some_iff.1 k3).1;refine ⟨hI1 M M' s A B k1 hgr hn,(hgr.block _ lt2 (by simp)).trans k2,(hgr.block _ lt3 (by simp)).trans k3,fun h=>?_,fun h=>?_⟩
  ·rcases hn _ h with h|h
   ·exact k4 h
   ·omega
  ·rcases hn _ h with h|h
   ·exact k5 h
   ·omega
 ·rintro s A B ⟨c,k1,k2,k3⟩ hgr
  have lt2:=(Array.getElem?_eq_some_iff.1 k2).1;have lt3:=(Array.getElem?_eq_some_iff.1 k3).1;exact ⟨c,hX1 c s A B k1 hgr,(hgr.block _ lt2 (by simp)).trans k2,(hgr.block _ lt3 (by simp)).trans k3⟩
 ·rintro m M pre x W ⟨hi,hl,hk,yM,zi⟩ hlen
  refine F8 (m:=n-1-1) m ?_;have hy:=run_yield (P:=P) (args:=Na x) hl (by rw[BP];exact hps x);rw[BP] at hy;refine ⟨fn,_,assign,body,hy,roundIn_of_wpIn hfn (U3 _ M pre x W _ hi ?_)⟩;clear hy;intro a' Wa hga TY;have hka:fp M W Wa:=fp.grown hga (fun r e=>by cases e);have hia:I M pre Wa:=hI1 M M pre W Wa hi hga (fun b hb=>.inl hb);have hl':Wa.heap[w.heap.size+1]?=some (.loop (rec .ready none)):=(hga.block _ (Array.getElem?_eq_some_iff.1 hl).1 (by simp)).trans hl;have hk':Wa.heap[w.heap.size]?=some (.deferred (some [])):=(hga.block _ (Array.getElem?_eq_some_iff.1 hk).1 (by simp)).trans hk;have hlt:w.heap.size+1<Wa.heap.size:=(Array.getElem?_eq_some_iff.1 hl').1;refine ⟨_,run_beginRound hl' (by rw[BP]),?_⟩;have Qf:Wa.grownBy (Wa.putObj (w.heap.size+1) (.loop {rec .ready none with state:=.busy})) (some (w.heap.size+1)):=grownBy_putObj' _ _ _;have hl2:(Wa.putObj (w.heap.size+1) (.loop {rec .ready none with state:=.busy})).heap[w.heap.size+1]?=some (.loop {rec .ready none with state:=.busy}):=World.putObj_heap_same hlt;have hk2:(Wa.putObj (w.heap.size+1) (.loop {rec .ready none with state:=.busy})).heap[w.heap.size]?=some (.deferred (some [])):=(World.putObj_heap_other (by omega)).trans hk';have tj:fp M Wa (Wa.putObj (w.heap.size+1) (.loop {rec .ready none with state:=.busy})):=fp.grown Qf (fun r e=>by cases e;exact yM);refine wpIn_mono (acC _ M pre x a' _ (hI2 M pre Wa _ _ _ hia Qf (by omega) hl' rfl) (hAx M x a' Wa _ _ _ TY Qf (by omega) hl' rfl) hlen) ?_;have fin:∀(jump:Option Code) (W3:World),KeepsFrom w.heap.size (Wa.putObj (w.heap.size+1) (.loop {rec .ready none with state:=.busy})) W3 →
   (Instr.endRound (w.heap.size+1) jump).run P W3=.ok (.bool jump.isNone) (W3.putObj (w.heap.size+1) (.loop (rec (if jump.isNone then .ready else .done) jump))) ∧
   W3.heap[w.heap.size+1]?=some (.loop {rec .ready none with state:=.busy}) ∧
   (W3.putObj (w.heap.size+1) (.loop (rec (if jump.isNone then .ready else .done) jump))).heap[w.heap.size+1]?=some (.loop (rec (if jump.isNone then .ready else .done) jump)) ∧
   (W3.putObj (w.heap.size+1) (.loop (rec (if jump.isNone then .ready else .done) jump))).heap[w.heap.size]?=some (.deferred (some [])):=fun jump W3 hk3=>by
   have BD:=hk3.same _ _ (by omega) hl2 rfl;have:=run_endRound (P:=P) jump BD;rw[BP] at this ⊢;exact ⟨this,by rw[BP] at BD;exact BD,World.putObj_heap_same (Array.getElem?_eq_some_iff.1 BD).1,(World.putObj_heap_other (by omega)).trans (hk3.same _ _ aT hk2 rfl)⟩
  rintro e a3 W3 hp;cases e with
  |normal=>obtain ⟨hk3,aiG,zA⟩:=hp;obtain ⟨hr,BD,hl4,hk4⟩:=fin none W3 hk3;have Qg:W3.grownBy (W3.putObj (w.heap.size+1) (.loop (rec .ready none))) (some (w.heap.size+1)):=grownBy_putObj' _ _ _;exact ⟨_,_,hr,.inl ⟨rfl,⟨hI2 M _ W3 _ _ _ zA Qg (by omega) BD rfl,hl4,hk4,yM,zi⟩,((hka.trans tj).trans aiG).trans (fp.grown Qg (fun r e=>by cases e;exact yM))⟩⟩
  |ret=>obtain ⟨hk3,zA⟩:=hp;obtain ⟨hr,BD,hl4,hk4⟩:=fin (some .ret) W3 hk3;exact ⟨_,_,hr,.inr ⟨rfl,.ret,hX2 _ _ W3 _ _ _ zA (grownBy_putObj' _ _ _) (by omega) BD rfl,hl4,hk4⟩⟩
  |exit id=>obtain ⟨hk3,zA⟩:=hp;obtain ⟨hr,BD,hl4,hk4⟩:=fin (some (.exit id)) W3 hk3;exact ⟨_,_,hr,.inr ⟨rfl,.exit id,hX2 _ _ W3 _ _ _ zA (grownBy_putObj' _ _ _) (by omega) BD rfl,hl4,hk4⟩⟩
  |goto t=>obtain ⟨hk3,zA⟩:=hp;obtain ⟨hr,BD,hl4,hk4⟩:=fin (some (.goto t)) W3 hk3;exact ⟨_,_,hr,.inr ⟨rfl,.goto t,hX2 _ _ W3 _ _ _ zA (grownBy_putObj' _ _ _) (by omega) BD rfl,hl4,hk4⟩⟩
  |panic ch=>exact hp.elim
  |outgrown=>exact hp.elim
 ·rintro e W2 ⟨⟨v,rfl⟩,(⟨M,hi,hl,hk,yM,zi⟩|⟨pre,hSp,c,hi,hl,hk⟩)⟩
  ·exact ⟨none,_,by have:=run_endLoop (P:=P) hl (by rw[BP];simp);rw[BP] at this;exact this,hdone _ M _ aT (hI2 M _ W2 _ _ _ hi (grownBy_putObj' _ _ _) (by omega) hl rfl) ((World.putObj_heap_other (by omega)).trans hk)⟩
  ·exact ⟨some c,_,by have:=run_endLoop (P:=P) hl (by rw[BP];simp);rw[BP] at this;exact this,xj _ c pre _ aT hSp (hX2 _ _ W2 _ _ _ hi (grownBy_putObj' _ _ _) (by omega) hl rfl) ((World.putObj_heap_other (by omega)).trans hk)⟩
end Go.Proofs.YtbigkioechkngaaGreat
namespace Go.Proofs.YtbigkioechkngaaGreat
open Go.RowKit Go.Shelf
open Tryz
attribute [local go_sem] Oper.semAt_some
def U5 (x:ay):Array Value := #[.agg #[.int .i64 x.1,.int .i64 x.2]]
structure Env (l:Nat) (L:List ay) (J:(Nat→Prop)→List ay→World→Prop) (Jx:List ay→World→Prop):Prop where
 keep:∀M M' s A B,J M s A→A.grownBy B none→New M M' A B→J M' s B
 amA:∀s A B,Jx s A→A.grownBy B none→Jx s B
 yield:∀m M pre x W1,J M pre W1→pre++[x] <+: L→YieldAt Fence.wide m prog l (U5 x) W1 fun e W'=>(e=.returned (.bool true)∧J M (pre++[x]) W'∧fp M W1 W')∨(e=.returned (.bool false)∧Jx (pre++[x]) W')
def JW (M:Nat→Prop) (b:Nat):Nat→Prop:=fun k=>M k∨k=b
theorem U6 (M:Nat→Prop) (W:World) (o:Obj):New M (JW M W.heap.size) W (W.alloc o):=fun b hb=>by
 rcases hb with hb|rfl
 ·exact .inl hb
 ·exact .inr (by simp)
def QY (J:(Nat→Prop)→List ay→World→Prop) (Jx:List ay→World→Prop) (M:Nat→Prop) (pre l:List ay) (W:World) (e:Ending) (W':World):Prop:=
 (e=.returned (.bool true)∧(∃M',(∀b,M b→M' b)∧J M' (pre++l) W')∧fp M W W')∨(e=.returned (.bool false)∧∃q,q <+: l∧Jx (pre++q) W')
theorem U7 (l:Nat) (L:List ay) (J:(Nat→Prop)→List ay→World→Prop) (Jx:List ay→World→Prop) (E:Env l L J Jx) (t:ag) :
 ∀(n:Nat) (a b c:Value) (low:Int) (M:Nat→Prop) (pre:List ay) (W:World),bE t low=true→bn (mask M W) t a b c→J M pre W→pre++aA t <+: L →
  CallsIn Fence.wide n prog 216 #[.agg #[a,b,c],.func (.yield l) #[] #[]] W (QY J Jx M pre (aA t) W):=by
 induction t using ag.ind with
 |h ks vs kids ih=>
  intro n a b c low M pre W hsz hn hj hN;have zh:=aa ih;clear ih;have HE:=aa E;clear E;have zl:=aa hn;obtain ⟨⟨pa,ca,rfl,a1,a2,ha⟩,⟨pb,cb,rfl,b1,b2,MP⟩,⟨pc,cc,rfl,c1,c2,hk⟩⟩:=bA.1 hn;simp only[ag.keys,ag.vals,ag.kids] at a1 b1 c1 ha MP hk zl ⊢;have HA:=aa ha;have HV:=aa MP;have HK:=aa hk;obtain ⟨K,hK⟩:=aG ks.length;obtain ⟨V,hV⟩:=aG vs.length;obtain ⟨C,hC⟩:=aG kids.length;rw[hK] at a1 zl ⊢;rw[hV] at b1 zl ⊢;rw[hC] at c1 zl ⊢;have hla:=fG (n:=K) a2;have hlb:=fG (n:=V) b2;have hlc:=fG (n:=C) c2;have vn:=aa hK;have Qh:=aa hV;have tk:=aa hC;simp only[bE,Bool.and_eq_true,decide_eq_true_eq] at hsz;rw[hK,hV,hC] at hsz;have mN:=aa hsz;have rY:=aa hN;have HJ:=aa hj;clear hn ha MP hk a1 a2 b1 b2 c1 c2 hK hV hC hsz hN hj;obtain ⟨W1,hW1⟩:=aG (W.alloc (.cells #[.slice pa K ca,.slice pb V cb,.slice pc C cc] 73));have aU:=aa (show gN W.heap.size (.slice pa K ca) (.slice pb V cb) (.slice pc C cc) W1 by rw[← hW1];exact ⟨by simp,by simp,by simp⟩);have LV:=aa (show W.grownBy W1 none by rw[← hW1];exact World.grownBy_alloc _ _ _);have HJ1:=aa (show J (JW M W.heap.size) pre W1 from HE.keep _ _ _ _ _ HJ LV (by rw[← hW1];exact U6 M W _));have ee:=aa hW1;clear hW1;refine callsIn_of_wp func216 rfl trivial ?_ rfl;simp only[ntmps216,List.size_toArray,List.length_cons,List.length_nil,Nat.reduceAdd,Nat.reduceSub,Array.replicate_succ,Array.replicate_zero,List.push_toArray,List.append_toArray,List.nil_append,List.cons_append];rcases Nat.eq_zero_or_pos C with hz|hz
  ·have hz0:((C:Int)==0)=true:=by rw[hz];rfl
   have hVK:V=K:=by
    have:=mN.2;rw[if_pos hz] at this
    simpa using this
   have HP:=aa (show aA (.mk ks vs kids)=ks.zip vs by
    have:kids=[]:=List.eq_nil_of_length_eq_zero (by rw[tk.o];exact hz);subst this;simp[aA,bP])
   clear hz;subst hVK;gi_wp2_with fail;rw[ee.o];gi_loopw [16,5,6] (fun i _ _ wr=>∃k:Nat,k≤V∧i=.int .i64 k∧J (JW M W.heap.size) (pre++(ks.zip vs).take k) wr∧fp (JW M W.heap.size) W1 wr) (fun i _ _ _=>V-(intOf i).toNat)
   case atStart=>exact ⟨0,dO,rfl,by rw[List.take_zero,List.append_nil];exact HJ1,fp.refl _ _⟩
   case round=>
    obtain ⟨k,hk,rfl,hj,tj⟩:=hrel;have Ct:=aa hj;have jZ:=aa tj;clear hj tj;by_cases hlt:k<V
    case neg=>
     obtain rfl:k=V:=by omega
     have HT:=aa (show (ks.zip vs).take k=ks.zip vs from List.take_of_length_le (by rw[List.length_zip,vn.o];omega));gi_wp2_with fail;go_ret;refine Or.inl ⟨rfl,⟨JW M W.heap.size,fun b hb=>Or.inl hb,?_⟩,(fp.grown LV (fun r e=>by cases e)).trans (jZ.less fun b hb=>Or.inl hb)⟩;rw[HP.o,← HT.o];exact Ct.o
    have fN:(k:Int)<(V:Int):=(by omega);obtain ⟨x,hx⟩:=fx (l:=ks) (k:=k) (by rw[vn.o];exact hlt);obtain ⟨y,hy⟩:=fx (l:=vs) (k:=k) (by rw[Qh.o];exact hlt);obtain ⟨_,ga,oa,rfl,BA⟩:=HA.o k x hx;obtain ⟨_,gb,ob,rfl,BL⟩:=HV.o k y hy;have rx:=jZ.cell (.inl (aq.1 BA).1) (LV.cell (aq.1 BA).2 (by simp));have ry:=jZ.cell (.inl (aq.1 BL).1) (LV.cell (aq.1 BL).2 (by simp));have x0:=jZ.cell (.inr rfl) aU.1;have x1:=jZ.cell (.inr rfl) aU.2.1;have Jn:=aa (FI hx hy);have hlen:(pre++(ks.zip vs).take k)++[(x,y)] <+: L:=by have h1:=rY.o;rw[HP.o] at h1;refine List.IsPrefix.trans ?_ h1;rw[List.append_assoc,← Jn.o];exact (List.prefix_append_right_inj pre).2 (List.take_prefix _ _)
    obtain ⟨fn,tmps,assign,body,QZ,hR⟩:=HE.yield (n-1) _ _ (x,y) wr Ct hlen;simp only[U5] at QZ;clear hx hy BA BL hlen;gi_wp2_with fail;refine ⟨fun h=>(by cases h),?_⟩;refine hR.mono ?_;rintro e W3 (⟨rfl,Q0,hk3⟩|⟨rfl,hx3⟩)
    ·have HJ3:=aa Q0;have HK3:=aa (jZ.trans hk3)
     clear Q0 hk3 rx ry x0 x1;gi_wp2_with fail;go_roundw
     case rel=>exact ⟨k+1,by omega,by go_num,by rw[Jn.o,← List.append_assoc];exact HJ3.o,HK3.o⟩
     case measure=>simp[intOf];omega
    ·have kD:=aa hx3
     clear hx3 rx ry x0 x1;gi_wp2_with fail;go_ret;refine Or.inr ⟨rfl,(ks.zip vs).take (k+1),?_,?_⟩
     ·rw[HP.o];exact List.take_prefix _ _
     ·rw[Jn.o,← List.append_assoc];exact kD.o
  ·have hz0:((C:Int)==0)=false:=by rw[beq_eq_false_iff_ne];omega
   have HP:=aa (show aA (.mk ks vs kids)=bP kids by
    simp only[aA];rw[if_neg (by rw[tk.o];omega),List.nil_append])
   have UO:=aa (show ∀(j:Nat) (u:ag),kids[j]?=some u→bE u 2=true by
    have:=mN.2;rw[if_neg (by omega)] at this;simp only[Bool.and_eq_true,decide_eq_true_eq] at this;exact fun j u hu=>((eT _ _).1 this.2 j u hu).1)
   clear hz;gi_wp2_with fail;rw[ee.o];gi_loopw [35,8] (fun i _ wr=>∃(k:Nat) (M':Nat→Prop),k≤C∧i=.int .i64 k∧(∀b,JW M W.heap.size b→M' b)∧J M' (pre++bP (kids.take k)) wr∧fp (JW M W.heap.size) W1 wr) (fun i _ _=>C-(intOf i).toNat)
   case atStart=>exact ⟨0,_,dO,rfl,fun b hb=>hb,by rw[List.take_zero];simp only[bP,List.append_nil];exact HJ1,fp.refl _ _⟩
   case round=>
    obtain ⟨k,M',hk,rfl,Q1,hj,tj⟩:=hrel;have Ct:=aa hj;have jZ:=aa tj;have rZ:=aa Q1;clear hj tj Q1;by_cases hlt:k<C
    case neg=>
     obtain rfl:k=C:=by omega
     have HT:=aa (show kids.take k=kids from List.take_of_length_le (by rw[tk.o];exact aT));gi_wp2_with fail;go_ret;refine Or.inl ⟨rfl,⟨M',fun b hb=>rZ b (Or.inl hb),?_⟩,(fp.grown LV (fun r e=>by cases e)).trans (jZ.less fun b hb=>Or.inl hb)⟩;rw[HP.o,← HT.o];exact Ct.o
    have fN:(k:Int)<(C:Int):=(by omega);obtain ⟨u,hu⟩:=fx (l:=kids) (k:=k) (by rw[tk.o];exact hlt);obtain ⟨g,o,a,b,d,rfl,e1,e2,e3,e4⟩:=HK.o k u hu;obtain ⟨pu,nu,cu,pv,nv,cv,pw,nw,cw,rfl,rfl,rfl⟩:=aZ e4;have kk:dI (mask M W) (mask M wr):=bF fun q v hq hv=>⟨hq,jZ.cell (.inl hq) (LV.cell hv (by simp))⟩
    have r1:=(aq.1 (kk _ _ e1)).2;have r2:=(aq.1 (kk _ _ e2)).2;have r3:=(aq.1 (kk _ _ e3)).2;obtain ⟨W2,hW2⟩:=aG (wr.alloc (.cells #[.slice pu nu cu,.slice pv nv cv,.slice pw nw cw] 73));have hg2:wr.grownBy W2 none:=by rw[← hW2];exact World.grownBy_alloc _ _ _
    have UU:=aa hg2;have yu:=aa (show bn (mask M' W2) u (.slice pu nu cu) (.slice pv nv cv) (.slice pw nw cw) from (e4.keep kk).keep (bF fun q v hq hv=>⟨rZ _ (.inl hq),hg2.cell hv (by simp)⟩));have HJ3:=aa (show J M' (pre++bP (kids.take k)) W2 from HE.keep _ _ _ _ _ Ct hg2 (fun b hb=>.inl hb));have Yq:=aa (UO.o k u hu);have HUM:=aa (List.mem_of_getElem? hu);have yn:=aa (pX hu);have rC:=aa (show (pre++bP (kids.take k))++aA u <+: L by
     have h1:=rY.o;rw[HP.o] at h1;refine List.IsPrefix.trans ?_ h1;rw[List.append_assoc,← pX hu];refine (List.prefix_append_right_inj pre).2 ?_;have Q2:bP kids=bP (kids.take (k+1))++bP (kids.drop (k+1)):=by rw[bW,bW,bW,← List.flatten_append,← List.map_append,List.take_append_drop]
     rw[Q2];exact List.prefix_append _ _)
    have Xl:=aa hW2;clear hu e1 e2 e3 e4 kk hW2 hg2;gi_wp2_with fail;rw[Xl.o];refine ⟨trivial,fun h=>(by cases h),?_⟩;refine (zh u HUM (n-1) _ _ _ 2 M' _ W2 Yq yu HJ3 rC).mono ?_;rintro e W3 (⟨rfl,⟨M2,zi,Q0⟩,hk3⟩|⟨rfl,q,hq,hx3⟩)
    ·have Q3:=aa Q0;have Cq:=aa zi
     have Nb:=aa (jZ.trans ((fp.grown UU (fun r e=>by cases e)).trans (hk3.less rZ)));clear Q0 hk3 zi r1 r2 r3;gi_wp2_with fail;go_roundw
     case rel=>exact ⟨k+1,M2,by omega,by go_num,fun b hb=>Cq.o b (rZ.o b hb),by rw[yn.o,← List.append_assoc];exact Q3.o,Nb.o⟩
     case measure=>simp[intOf];omega
    ·have jK:=aa hx3;have HQ:=aa hq
     clear hx3 hq r1 r2 r3;gi_wp2_with fail;go_ret;refine Or.inr ⟨rfl,bP (kids.take k)++q,?_,?_⟩
     ·rw[HP.o]
      obtain ⟨r,hr⟩:=HQ.o;have Q2:bP kids=bP (kids.take (k+1))++bP (kids.drop (k+1)):=by rw[bW,bW,bW,← List.flatten_append,← List.map_append,List.take_append_drop]
      rw[Q2,yn.o,← hr];exact ⟨r++bP (kids.drop (k+1)),by simp⟩
     ·rw[← List.append_assoc];exact jK.o
theorem Nc (x y z:Value) (w:World):Calls prog 188 #[.agg #[x,y,z]] w fun e w'=>e=.returned (.func (.func 215) #[] #[.pointer (some ⟨w.heap.size,0,none⟩)])∧w'=w.alloc (.cells #[x,y,z] 73):=by go_enter func188,ntmps188;go_wp2_with fail;go_ret;exact ⟨rfl,rfl⟩
theorem Nd (n B:Nat) (M₀:Nat→Prop) (t:ag) (low:Int) (x y z:Value) (w:World) (hs:bE t low=true) (hn:bn (mask M₀ w) t x y z) (hx:gN B x y z w) :
 M9 n prog 215 #[.pointer (some ⟨B,0,none⟩)] U5 M₀ (aA t) w:=by
 intro l J Jx W hW LX hJ2 hY h0;have E:Env l (aA t) J Jx:=⟨LX,hJ2,fun m M pre x W1 h1 h2=>hY m M pre x W1 h1 h2⟩
 obtain ⟨pu,nu,cu,pv,nv,cv,pw,nw,cw,rfl,rfl,rfl⟩:=aZ hn;have ji:=hx.below hW;have Xd:bn (mask M₀ W) t _ _ _:=hn.keep (bF fun q v hq hv=>⟨hq,ae hW hv⟩);have hp:=U7 l _ J Jx E t (n-1) _ _ _ low M₀ [] W hs Xd h0 (List.prefix_refl _);have HP:=aa hp;obtain ⟨x0,x1,x2⟩:=ji;clear hp hn Xd hx hW LX hJ2 hY h0 E hs;refine callsIn_of_wp func215 rfl trivial ?_ rfl;simp only[ntmps215,List.size_toArray,List.length_cons,List.length_nil,Nat.reduceAdd,Nat.reduceSub,Array.replicate_succ,Array.replicate_zero,List.push_toArray,List.append_toArray,List.nil_append,List.cons_append];gi_wp2_with fail;refine ⟨trivial,fun h=>(by cases h),?_⟩;refine HP.mono ?_;rintro e W3 (⟨rfl,⟨M2,_,Q0⟩,_⟩|⟨rfl,q,hq,hx3⟩)
 ·have HJ3:=aa Q0
  clear Q0 x0 x1 x2;gi_wp2_with fail;go_end0;exact ⟨⟨_,rfl⟩,Or.inl ⟨M2,by simpa using HJ3.o⟩⟩
 ·have kD:=aa hx3;have HQ:=aa hq
  clear hx3 hq x0 x1 x2;gi_wp2_with fail;go_end0;exact ⟨⟨_,rfl⟩,Or.inr ⟨q,HQ,by simpa using kD.o⟩⟩
attribute [local go_sem] Oper.semAt_some
def uv (l:List ay) (f t:Int):List ay:=l.filter fun x=>inB x f t
def ik (l:List ay) (f:Int):List ay:=l.filter fun x=>decide (f≤x.1)
structure F9 (w:World) (B:Nat) (f t:Int) (M:Nat→Prop) (pre:List ay) (W:World):Prop where
 row:∃v,Boxed W B 76 v∧W.ownsRow (B+2) 82 2 v (ik pre f).length (bJ (ik pre f)).flatten∧∀g,v.ownBlock=some g→¬M g
 m1:¬M B
 ml:∀b,M b→b<W.heap.size
 sz:B+2≤W.heap.size
 bf:W.cell? ⟨w.heap.size+1,0,none⟩=some (.int .i64 f)
 bt:W.cell? ⟨w.heap.size+1+1,0,none⟩=some (.int .i64 t)
 below:Bw w W
 lt:∀y∈pre,y.1<t
theorem F9.kept {w:World} {B:Nat} {f t:Int} {M M':Nat→Prop} {pre:List ay} {A C:World} {row:Option Nat} (h:F9 w B f t M pre A) (hB:w.heap.size+2<B) (hg:A.grownBy C row) (hr:∀r,row=some r→B≤r∧∃o,A.heap[r]?=some o∧o.isCells=false) (hn:New M M' A C):F9 w B f t M' pre C:=by
 have Qi:∀b,b<B→some b≠row:=fun b hb e=>by have:=(hr b e.symm).1;omega
 obtain ⟨v,h1,h2,h3⟩:=h.row;have hrow:∀r,row=some r→r≠B∧v.ownBlock≠some r:=fun r e=>by
  obtain ⟨h4,o,h5,h6⟩:=hr r e;refine ⟨fun e2=>?_,fun e2=>?_⟩
  ·subst e2;rw[show A.heap[r]?=_ from h1] at h5;cases h5;cases h6
  ·rcases aJ h2 with ⟨hv,_,_⟩|⟨g,cap,hv⟩
   ·rw[hv] at e2;cases e2
   ·subst hv
    obtain ⟨cur,h7,_⟩:=bl h2;have:g=r:=by simpa [Value.ownBlock] using e2
    subst this;rw[h7] at h5;cases h5;cases h6
 refine ⟨⟨v,h1.kept hg (fun e=>(hrow _ e.symm).1 rfl),h2.kept hg ?_,fun g e hm=>?_⟩,fun hm=>?_,fun b hm=>?_,Nat.le_trans h.sz hg.size,hg.cell h.bf (Qi _ (by show w.heap.size+1<B;omega)),hg.cell h.bt (Qi _ (by show w.heap.size+1+1<B;omega)),?_,h.lt⟩
 ·rcases hro:row with _|r
  ·rcases hv:v.ownBlock with _|g
   ·exact .inl rfl
   ·exact .inr (by simp)
  ·exact .inr (hrow r hro).2
 ·rcases hn g hm with hm|hm
  ·exact h3 g e hm
  ·have:=(h2.lt g e).2;omega
 ·rcases hn _ hm with hm|hm
  ·exact h.m1 hm
  ·have:=h.sz;omega
 ·rcases hn b hm with hm|hm
  ·have:=h.ml b hm;have:=hg.size;omega
  ·exact hm.2
 ·exact ⟨hg.os.trans h.below.os,hg.tape.trans h.below.tape,hg.output.trans h.below.output,Nat.le_trans h.below.size hg.size,fun k hk=>(hg.block k (by have:=h.below.size;omega) (Qi k (by omega))).trans (h.below.block k hk)⟩
theorem Ga {l:List ay} {f t:Int} (h:∀y∈l,y.1<t):ik l f=uv l f t:=by unfold ik uv inB;apply List.filter_congr;intro x hx;rw[decide_eq_true (h x hx),Bool.and_true]
theorem Nf {l q:List ay} {x:ay} {f t:Int} (hr:jy l=true) (hp:q++[x] <+: l) (hq:∀y∈q,y.1<t) (hx:t≤x.1):ik q f=uv l f t:=by
 obtain ⟨r,rfl⟩:=hp;have hle:∀y∈[x]++r,t≤y.1:=by
  have acH:=(rA _).1 hr;intro y hy;obtain ⟨j,hj⟩:=List.mem_iff_getElem?.1 hy;have:∀(j:Nat) y,([x]++r)[j]?=some y→t≤y.1:=by
   intro j
   induction j with
   |zero=>intro y hy;simp at hy;subst hy;exact hx
   |succ j ih=>
    intro y hy;have hlt:j<([x]++r).length:=by have:=(List.getElem?_eq_some_iff.1 hy).1;omega
    obtain ⟨z,hz⟩:∃z,([x]++r)[j]?=some z:=⟨_,List.getElem?_eq_getElem hlt⟩
    have h1:=ih z hz;have h2:=acH (q.length+j) z y (by rw[List.append_assoc,List.getElem?_append_right (by omega),show q.length+j-q.length=j by omega];exact hz) (by rw[List.append_assoc,List.getElem?_append_right (by omega),show q.length+j+1-q.length=j+1 by omega];exact hy);omega
  exact this j y hj
 rw[Ga hq];unfold uv;have hnil:([x]++r).filter (fun x=>inB x f t)=[]:=List.filter_eq_nil_iff.2 (fun y hy=>by
  unfold inB;have:=hle y hy;rw[show decide (y.1<t)=false from decide_eq_false (by omega),Bool.and_false];simp)
 rw[List.append_assoc,List.filter_append,hnil,List.append_nil]
def jQ (t:ag) (f u:Int):List ay:=if jN t=true then uv (aA t) f u else []
def Q4 (t:ag) (f u:Int) (w:World) (e:Ending) (w':World):Prop:=∃v',e=.returned v'∧w'.ownsRow w.heap.size 82 2 v' (jQ t f u).length (bJ (jQ t f u)).flatten∧Bw w w'
theorem U8 (w:World) (x y z p q:Value):gN w.heap.size x y z (((w.alloc (.cells #[x,y,z] 73)).alloc (.cells #[p] 3)).alloc (.cells #[q] 3)) ∧
 (((w.alloc (.cells #[x,y,z] 73)).alloc (.cells #[p] 3)).alloc (.cells #[q] 3)).cell? ⟨w.heap.size+1,0,none⟩=some p∧(((w.alloc (.cells #[x,y,z] 73)).alloc (.cells #[p] 3)).alloc (.cells #[q] 3)).cell? ⟨w.heap.size+1+1,0,none⟩=some q:=by
 have h0:gN w.heap.size x y z (w.alloc (.cells #[x,y,z] 73)):=⟨by simp,by simp,by simp⟩
 have h1:=Boxed.new (w.alloc (.cells #[x,y,z] 73)) 3 p;have h2:=Boxed.new ((w.alloc (.cells #[x,y,z] 73)).alloc (.cells #[p] 3)) 3 q;rw[World.size_alloc] at h1;rw[World.size_alloc,World.size_alloc] at h2;exact ⟨(h0.below (ar)).below (ar),(h1.alloc _).cell,h2.cell⟩
theorem uw (W:World) (B n:Nat) (v:Value) (l:List ay) (x y:Int) (hown:W.ownsRow B 82 2 v n (bJ l).flatten) (hn:n≤1000000) (hB:B≤W.heap.size) :
 ∃g cap w2,(Builtin.append_ #[76,76] 76 #[v,.slice (some ⟨W.heap.size,0,none⟩) 1 1]).run prog (W.alloc (.cells #[.int .i64 x,.int .i64 y] 82))=.ok (.slice (some ⟨g,0,none⟩) (n+1) cap) w2 ∧
  w2.ownsRow B 82 2 (.slice (some ⟨g,0,none⟩) (n+1) cap) (n+1) (bJ (l++[(x,y)])).flatten∧(W.alloc (.cells #[.int .i64 x,.int .i64 y] 82)).grownBy w2 v.ownBlock∧(v.ownBlock=some g∨g=W.heap.size+1):=by
 obtain ⟨i0,iM,hz0,hz1,hz2⟩:=info_parts FJ;obtain ⟨v',w',h1,h2,h3,_,h5⟩:=run_append_own_at (P:=prog) (W.alloc (.cells #[.int .i64 x,.int .i64 y] 82)) B 76 76 82 i0 (.agg #[.int .i64 0,.int .i64 0]) 2 16 underlying76 iM hz0 hz1 hz2 rfl (by decide) v n _ (hown.alloc _) ⟨W.heap.size,0,none⟩ 1 1 [.int .i64 x,.int .i64 y] rfl zj (by intro u hu;simp only[List.mem_cons,List.not_mem_nil,or_false] at hu;rcases hu with rfl|rfl <;> rfl) (by unfold maxLen;omega) (by omega) (by simp;omega);obtain ⟨g,cap,rfl⟩:=ownsRow_succ h2;refine ⟨g,cap,w',h1,by rw[nC];exact h2,h3,?_⟩;rcases h5 with h5|h5
 ·exact .inl h5.symm
 ·right;simpa [Value.ownBlock] using h5
theorem JX {W w2:World} {B Bs n g cap:Nat} {T e:TypeId} {k:Nat} {v:Value} {xs ys:List Value} {o:Obj} (M:Nat→Prop) (h1:Boxed W B T v) (h2:W.ownsRow Bs e k v n xs) (hBs:B<Bs) (hown:w2.ownsRow Bs e k (.slice (some ⟨g,0,none⟩) (n+1) cap) (n+1) ys)
 (hg:(W.alloc o).grownBy w2 v.ownBlock) (kL:v.ownBlock=some g∨g=W.heap.size+1) (hm:¬M B) (TZ:∀b,M b→b<W.heap.size) (hmr:∀g,v.ownBlock=some g→¬M g) (Bk:Nat) :
 Boxed w2 B T v∧KeepsFrom Bk W (w2.setCell ⟨B,0,none⟩ (.slice (some ⟨g,0,none⟩) (n+1) cap))∧fp M W (w2.setCell ⟨B,0,none⟩ (.slice (some ⟨g,0,none⟩) (n+1) cap))∧Boxed (w2.setCell ⟨B,0,none⟩ (.slice (some ⟨g,0,none⟩) (n+1) cap)) B T (.slice (some ⟨g,0,none⟩) (n+1) cap) ∧
  (w2.setCell ⟨B,0,none⟩ (.slice (some ⟨g,0,none⟩) (n+1) cap)).ownsRow Bs e k (.slice (some ⟨g,0,none⟩) (n+1) cap) (n+1) ys∧¬M g∧W.heap.size≤(w2.setCell ⟨B,0,none⟩ (.slice (some ⟨g,0,none⟩) (n+1) cap)).heap.size ∧
  (∀b,b<Bs→b≠B→b<W.heap.size→(w2.setCell ⟨B,0,none⟩ (.slice (some ⟨g,0,none⟩) (n+1) cap)).heap[b]?=W.heap[b]?):=by
 have hne:some B≠v.ownBlock:=fun e'=>by have:=(h2.lt _ e'.symm).1;omega
 have b2:Boxed w2 B T v:=(h1.alloc o).kept hg hne;have hgB:g≠B:=by have:=(hown.lt g rfl).1;omega
 have hsz:=hg.size;have aqo:=(grownBy_setCell' w2 B (.slice (some ⟨g,0,none⟩) (n+1) cap)).size;rw[World.size_alloc] at hsz;have Ng:¬M g:=by
  rcases kL with h|h
  ·exact hmr g h
  ·intro h';have:=TZ g h';omega
 have hblk:∀b,b<W.heap.size→b≠B→some b≠v.ownBlock→(w2.setCell ⟨B,0,none⟩ (.slice (some ⟨g,0,none⟩) (n+1) cap)).heap[b]?=W.heap[b]?:=fun b hb h3 h4=>
  ((grownBy_setCell' w2 B _).block b (by omega) (fun e'=>h3 (by injection e'))).trans ((hg.block b (by rw[World.size_alloc];omega) h4).trans ((World.grownBy_alloc W o none).block b hb (by simp)))
 refine ⟨b2,⟨by omega,fun k' o' _ hk hc=>?_⟩,⟨by omega,fun b hb hlt=>hblk b hlt (fun e'=>hm (by rw[← e'];exact hb)) (fun e'=>hmr b e'.symm hb)⟩,b2.set _,hown.kept (grownBy_setCell' w2 B _) (.inr (by simpa [Value.ownBlock] using hgB)),Ng,by omega,fun b hb h3 h4=>hblk b h4 h3 (fun e'=>by have:=(h2.lt _ e'.symm).1;omega)⟩;rw[hblk k' (Array.getElem?_eq_some_iff.1 hk).1 (fun e'=>?_) (fun e'=>?_)]
 ·exact hk
 ·rw[e',show W.heap[B]?=_ from h1] at hk;cases hk;cases hc
 ·rcases aJ h2 with ⟨hv,_,_⟩|⟨g',cap',hv⟩
  ·rw[hv] at e';cases e'
  ·subst hv
   obtain ⟨cur,h7,_⟩:=bl h2;have:k'=g':=by simpa [Value.ownBlock] using e'
   subst this;rw[h7] at hk;cases hk;cases hc
theorem zB (pre:List ay) (x:ay) (f:Int):ik (pre++[x]) f=ik pre f++if f≤x.1 then [x] else []:=by unfold ik;rw[List.filter_append];by_cases h:f≤x.1 <;> simp[h]
theorem Nh (pre:List ay) (f:Int):(ik pre f).length≤pre.length:=List.length_filter_le _ _
theorem Ni {w W:World} {B:Nat} {f t:Int} {M:Nat→Prop} {pre:List ay} {x:ay} (h:F9 w B f t M pre W) (hB:w.heap.size+2<B) (hx:x.1<t) (hf:f≤x.1) (hlen:pre.length≤900000) (Bk:Nat) :
 ∃v g cap w2,Boxed W B 76 v∧(Builtin.append_ #[76,76] 76 #[v,.slice (some ⟨W.heap.size,0,none⟩) 1 1]).run prog (W.alloc (.cells #[.int .i64 x.1,.int .i64 x.2] 82))=.ok (.slice (some ⟨g,0,none⟩) ((ik pre f).length+1) cap) w2∧Boxed w2 B 76 v ∧
  KeepsFrom Bk W (w2.setCell ⟨B,0,none⟩ (.slice (some ⟨g,0,none⟩) ((ik pre f).length+1) cap))∧fp M W (w2.setCell ⟨B,0,none⟩ (.slice (some ⟨g,0,none⟩) ((ik pre f).length+1) cap))∧F9 w B f t M (pre++[x]) (w2.setCell ⟨B,0,none⟩ (.slice (some ⟨g,0,none⟩) ((ik pre f).length+1) cap)):=by
 obtain ⟨v,h1,h2,h3⟩:=h.row;obtain ⟨g,cap,w2,r1,r2,r3,r4⟩:=uw W (B+2) _ v _ x.1 x.2 h2 (by have:=Nh pre f;omega) h.sz;obtain ⟨b1,b2,b3,b4,b5,b6,b7,b8⟩:=JX M h1 h2 (by omega) r2 r3 r4 h.m1 h.ml h3 Bk;have hs:=zB pre x f;rw[if_pos hf] at hs;have hc:∀(k:Nat) (u:Value),k<B→W.cell? ⟨k,0,none⟩=some u→(w2.setCell ⟨B,0,none⟩ (.slice (some ⟨g,0,none⟩) ((ik pre f).length+1) cap)).cell? ⟨k,0,none⟩=some u:=fun k u hk hu=>
  (World.cell?_of_block (a:=⟨k,0,none⟩) (b8 k (by omega) (by omega) (by have:=World.block_lt_of_cell? _ _ hu;exact this))).trans hu
 refine ⟨v,g,cap,w2,h1,r1,b1,b2,b3,⟨⟨_,b4,?_,fun g' e=>?_⟩,h.m1,fun b hb=>by have:=h.ml b hb;omega,by have:=h.sz;omega,hc _ _ (by omega) h.bf,hc _ _ (by omega) h.bt,?_,fun y hy=>?_⟩⟩
 ·rw[hs,List.length_append];exact b5
 ·have:g=g':=by simpa [Value.ownBlock] using e
  subst this;exact b6
 ·have hq:w2.grownBy (w2.setCell ⟨B,0,none⟩ (.slice (some ⟨g,0,none⟩) ((ik pre f).length+1) cap)) (some B):=grownBy_setCell' _ _ _
  exact ⟨hq.os.trans (r3.os.trans h.below.os),hq.tape.trans (r3.tape.trans h.below.tape),hq.output.trans (r3.output.trans h.below.output),Nat.le_trans h.below.size b7,fun k hk=>(b8 k (by omega) (by omega) (by have:=h.below.size;omega)).trans (h.below.block k hk)⟩
 ·rw[List.mem_append,List.mem_singleton] at hy
  rcases hy with hy|rfl
  ·exact h.lt y hy
  ·exact hx
theorem Q5 (t:ag) (x y z:Value) (f u:Int) (w:World) (hn:bn w t x y z) (hlen:(aA t).length≤900000):Calls prog 159 #[.agg #[x,y,z],.int .i64 f,.int .i64 u] w (Q4 t f u w):=by
 obtain ⟨pu,nu,cu,pv,nv,cv,pw,nw,cw,rfl,rfl,rfl⟩:=aZ hn;have HN:=aa hn;have HLEN:=aa hlen;clear hn hlen;rw[← callsIn_wide (n:=6)];refine callsIn_of_wp_marks func159 rfl trivial ?_ rfl;simp only[ntmps159,List.size_toArray,List.length_cons,List.length_nil,Nat.reduceAdd,Nat.reduceSub,Array.replicate_succ,Array.replicate_zero,List.push_toArray,List.append_toArray,List.nil_append,List.cons_append];obtain ⟨WA,kK⟩:∃W,((w.alloc (.cells #[.slice pu nu cu,.slice pv nv cv,.slice pw nw cw] 73)).alloc (.cells #[.int .i64 f] 3)).alloc (.cells #[.int .i64 u] 3)=W:=⟨_,rfl⟩
 have Fb:=aa (show gN w.heap.size (.slice pu nu cu) (.slice pv nv cv) (.slice pw nw cw) WA by rw[← kK];exact (U8 w _ _ _ _ _).1);have HF0:=aa (show WA.cell? ⟨w.heap.size+1,0,none⟩=some (.int .i64 f)∧WA.cell? ⟨w.heap.size+1+1,0,none⟩=some (.int .i64 u) by rw[← kK];exact (U8 w _ _ _ _ _).2);have kB:=aa (show Bw w WA by rw[← kK];exact ((ar).alloc (by simp) _).alloc (by simp;omega) _);have gq:=aa (show WA.heap.size=w.heap.size+3 by rw[← kK];simp);have UM:=aa kK;clear kK;gi_wp2_with fail;rw[UM.o];refine ⟨trivial,?_⟩;refine (callsIn_wide.2 (Eb t _ _ _ _ (HN.keep (af kB)))).mono ?_;rintro e w1 ⟨rfl,hb⟩;have aU:=aa (Fb.below hb);have aY:=bh kB hb;have JS:=aa (show w.heap.size+3≤w1.heap.size by have:=hb.size;have:=gq.o;omega);have sA:=aa (show w1.cell? ⟨w.heap.size+1,0,none⟩=some (.int .i64 f)∧w1.cell? ⟨w.heap.size+1+1,0,none⟩=some (.int .i64 u) from ⟨ae hb HF0.1,ae hb HF0.2⟩);clear hb Fb HF0 kB gq UM;obtain ⟨x0,x1,x2⟩:=aU.o;have hlx:=World.block_lt_of_cell? _ _ x0;cases hm:jN t with
 |false=>have HW:=aa (show jQ t f u=[] by unfold jQ;rw[hm,if_neg (by simp)]);clear hm;gi_wp2_with fail;refine ⟨_,results_tmp rfl _ _ _,_,rfl,?_,aY⟩;rw[HW.o];exact World.ownsRow_nil _ _ _ _
 |true=>
  have HM:=aa (show cC t 40≠0∧bE t 0=true∧jy (aA t)=true by unfold jN at hm;simpa [and_assoc] using hm);have HW:=aa (show jQ t f u=uv (aA t) f u by unfold jQ;rw[hm,if_pos rfl]);clear hm;gi_wp2_with fail;refine ⟨trivial,?_⟩;refine (callsIn_wide.2 (Nc _ _ _ _)).mono ?_;rintro e w' ⟨rfl,rfl⟩;gi_wp2_with fail;obtain ⟨W0,hW0⟩:∃W,(w1.alloc (.cells #[.slice none 0 0] 76)).alloc (.cells #[.slice pu nu cu,.slice pv nv cv,.slice pw nw cw] 73)=W:=⟨_,rfl⟩
  have hb0:Bw w1 W0:=by rw[← hW0];exact (ar).alloc (by simp) _
  have hs0:W0.heap.size=w1.heap.size+2:=by rw[← hW0];simp
  have fI:Boxed W0 w1.heap.size 76 (.slice none 0 0):=by rw[← hW0];exact (Boxed.new w1 _ _).alloc _
  have hnb:gN (w1.heap.size+1) (.slice pu nu cu) (.slice pv nv cv) (.slice pw nw cw) W0:=by
   rw[← hW0];have:(w1.alloc (.cells #[.slice none 0 0] 76)).heap.size=w1.heap.size+1:=by simp
   rw[← this];exact ⟨by simp,by simp,by simp⟩
  have kJ:=aa hs0;have sB:=aa fI;have rY:=aa hnb;have mU:=bh aY hb0;have Yr:=aa (show W0.cell? ⟨w.heap.size+1,0,none⟩=some (.int .i64 f)∧W0.cell? ⟨w.heap.size+1+1,0,none⟩=some (.int .i64 u) from ⟨ae hb0 sA.1,ae hb0 sA.2⟩);have JY:=aa hW0;have hsn:w1.heap.size+1=(w1.alloc (.cells #[.slice none 0 0] 76)).heap.size:=by simp
  have yn:=aa hsn;clear hb0 hs0 fI hnb hW0 hsn x0 x1 x2 hlx;rw[JY.o];have hseq:=Nd 5 (w1.heap.size+1) (fun b=>b<w.heap.size∨b=w1.heap.size+1) t 0 _ _ _ W0 HM.2.1 (HN.keep (fun q v hv=>aq.2 ⟨.inl (World.block_lt_of_cell? _ _ hv),ae mU hv⟩)) rY.o;have hBB:w.heap.size+2<w1.heap.size:=by have:=JS.o;omega
  refine ij (n:=6) (gf:=215) (lb := #[.pointer (some ⟨w1.heap.size+1,0,none⟩)]) (by omega) rfl (enters_of func215 (by kernel_rfl) rfl) hseq ?hM (fun _=>rfl) (F9 w w1.heap.size f u)
   (fun c pre W=>c=.exit 0∧∃q x,pre=q++[x]∧u≤x.1∧∃M,F9 w w1.heap.size f u M q W) ?i1 ?i2 ?x1 ?x2 ?start
   (fun _ x a' W=>∃Bx,w1.heap.size+2≤Bx∧W.heap[Bx]?=some (.cells #[.int .i64 x.1,.int .i64 x.2] 82 (0,0))∧a'={tmps := #[.agg #[.slice pu nu cu,.slice pv nv cv,.slice pw nw cw],.int .i64 f,.int .i64 u,.pointer (some ⟨w.heap.size,0,none⟩),.pointer (some ⟨w.heap.size+1,0,none⟩),.pointer (some ⟨w.heap.size+1+1,0,none⟩),.slice none 0 0,.pointer (some ⟨w1.heap.size,0,none⟩),.pointer (some ⟨Bx,0,none⟩),.agg #[.slice pu nu cu,.slice pv nv cv,.slice pw nw cw],.bool true,.bool false,.agg #[.slice pu nu cu,.slice pv nv cv,.slice pw nw cw],.func (.func 215) #[] #[.pointer (some ⟨w1.heap.size+1,0,none⟩)],.agg #[.int .i64 x.1,.int .i64 x.2],uu,uu,uu,uu,uu,uu,uu,uu,uu,uu,uu,uu,uu],defers:=[]}) ?ax ?assign ?body ?done ?stop
  case hM=>
   intro b hb;rcases hb with hb|hb
   ·have:=mU.size;omega
   ·have:=kJ.o;omega
  case i1=>exact fun M M' s A B h hg hn=>h.kept hBB hg (fun r e=>by cases e) hn
  case i2=>exact fun M s A B r o h hg hr ho hc=>h.kept hBB hg (fun r' e=>by cases e;exact ⟨by have:=kJ.o;omega,o,ho,hc⟩) (fun b hb=>.inl hb)
  case x1=>rintro c s A B ⟨rfl,q,x,h1,h2,M,h3⟩ hg;exact ⟨rfl,q,x,h1,h2,M,h3.kept hBB hg (fun r e=>by cases e) (fun b hb=>.inl hb)⟩
  case x2=>rintro c s A B r o ⟨rfl,q,x,h1,h2,M,h3⟩ hg hr ho hc;exact ⟨rfl,q,x,h1,h2,M,h3.kept hBB hg (fun r' e=>by cases e;exact ⟨by have:=kJ.o;omega,o,ho,hc⟩) (fun b hb=>.inl hb)⟩
  case start=>
   refine ⟨⟨_,sB,World.ownsRow_nil _ _ _ _,fun g e=>by cases e⟩,?_,?_,by have:=kJ.o;omega,Yr.1,Yr.2,mU,fun y hy=>by simp at hy⟩
   ·rintro (h|h)
    ·omega
    ·omega
   ·rintro b (h|h)
    ·have:=mU.size;omega
    ·have:=kJ.o;omega
  case ax=>rintro M x a' A B r o ⟨Bx,h1,h2,rfl⟩ hg hr ho hc;refine ⟨Bx,h1,(hg.block Bx (Array.getElem?_eq_some_iff.1 h2).1 (fun e=>?_)).trans h2,rfl⟩;injection e with e;subst e;rw[h2] at ho;cases ho;cases hc
  case assign=>
   intro l M pre x W K hi hK;have hsz:=hi.sz
   dsimp only[U5]
   gi_wp2;exact hK _ _ (World.grownBy_alloc _ _ _) ⟨W.heap.size,hsz,World.alloc_heap_new _ _,rfl⟩
  case body=>
   rintro l M pre x a' W hi ⟨Bx,hBx,fI,rfl⟩ hlen;have HI:=aa hi;have c0:W.cell? ⟨Bx,0,none⟩=some (.int .i64 x.1):=by simp[World.cell?,fI]
   have c1:W.cell? ⟨Bx,1,none⟩=some (.int .i64 x.2):=(by simp[World.cell?,fI]);have cf:=hi.bf;have ct:=hi.bt;have hpl:pre.length≤900000:=by have h1:=HLEN.o;have h2:=hlen.length_le;rw[List.length_append] at h2;omega
   clear hi fI hseq;by_cases hu:u≤x.1
   ·have HU:=aa hu
    gi_wp2;exact ⟨KeepsFrom.refl _ _,rfl,pre,x,rfl,HU,M,HI⟩
   ·have UT:¬u≤x.1:=hu
    by_cases hf:f≤x.1
    ·obtain ⟨v,g,cap,w2,k1,k2,k3,k4,k5,k6⟩:=Ni HI hBB (by omega) hf hpl W0.heap.size
     have HR:=aa k2;have Nb:=aa k4;have U9:=aa k5;have HK6:=aa k6;have hv:=k1.cell;have hv2:=k3.cell;have hv3:=k3.frozen;clear k1 k2 k3 k4 k5 k6;gi_wp2_with (gi_at_builtin;refine lh _ rfl _ _ _ rfl _ _ rfl rfl _ _ HR.o ?_);exact ⟨Nb,U9,HK6⟩
    ·have Xl:=aa (show F9 w w1.heap.size f u M (pre++[x]) W from
      {row:=by
        obtain ⟨v,h1,h2,h3⟩:=HI.row;have ht:=zB pre x f;rw[if_neg hf,List.append_nil] at ht;exact ⟨v,h1,by rw[ht];exact h2,h3⟩
       m1:=HI.m1,ml:=HI.ml,sz:=HI.sz,bf:=HI.bf,bt:=HI.bt,below:=HI.below
       lt:=fun y hy=>by
        rw[List.mem_append,List.mem_singleton] at hy;rcases hy with hy|rfl
        ·exact HI.lt y hy
        ·omega})
     gi_wp2;exact ⟨KeepsFrom.refl _ _,fp.refl _ _,Xl⟩
  case done=>
   rintro D M W hD hi hK;have HI:=aa hi;obtain ⟨v,h1,h2,h3⟩:=hi.row;have hc:=h1.cell;have HR:=aa (show ik (aA t) f=jQ t f u by rw[HW.o];exact Ga HI.lt);have H2:=aa h2;clear h1 h2 h3 hi hseq;gi_wp2;refine ⟨by simp,.inl ⟨_,_,rfl,run_takeDeferred hK,?_⟩⟩;refine ⟨_,results_tmp rfl _ _ _,_,rfl,?_,?_⟩
   ·rw[← HR.o];exact bz (by omega) (ownsRow_putObj H2 _ hK rfl)
   ·exact HI.below.trans (belowK_b (w:=w) aT W D _ _ (by have:=mU.size;omega) hK rfl rfl)
  case stop=>
   rintro D c pre W hD hp ⟨rfl,q,x,rfl,hu,M,hi⟩ hK;have HI:=aa hi;obtain ⟨v,h1,h2,h3⟩:=hi.row;have hc:=h1.cell;have HR:=aa (show ik q f=jQ t f u by rw[HW.o];exact Nf HM.2.2 hp HI.lt hu);have H2:=aa h2;clear h1 h2 h3 hi hseq hp hu;gi_wp2;refine ⟨by simp,.inl ⟨_,_,rfl,run_takeDeferred hK,?_⟩⟩;refine ⟨_,results_tmp rfl _ _ _,_,rfl,?_,?_⟩
   ·rw[← HR.o];exact bz (by omega) (ownsRow_putObj H2 _ hK rfl)
   ·exact HI.below.trans (belowK_b (w:=w) aT W D _ _ (by have:=mU.size;omega) hK rfl rfl)
end Go.Proofs.YtbigkioechkngaaGreat
namespace Go.Proofs.YtbigkioechkngaaGreat
open Go.RowKit Tryz
def kW:List dx→dx→Bool→List dx
 |[],v,laid=>if laid then [] else [v]
 |x::l,v,laid=>(if laid=false∧v.id≤x.id then [v] else [])++(if x.id=v.id then [] else [x])++kW l v (laid || decide (v.id≤x.id))
theorem Nj (x:dx) (l:List dx) (v:dx) (laid:Bool):kW (x::l) v laid=(if laid=false∧v.id≤x.id then [v] else [])++(if x.id=v.id then [] else [x])++kW l v (laid || decide (v.id≤x.id)):=by simp only[kW]
theorem Gb:∀(l:List dx) (v:dx) (laid:Bool),(kW l v laid).length≤l.length+(if laid then 0 else 1)
 |[],v,laid=>by cases laid <;> simp[kW]
 |x::l,v,laid=>by
  have:=Gb l v (laid || decide (v.id≤x.id));simp only[kW,List.length_append,List.length_cons];cases laid
  ·by_cases h:v.id≤x.id
   ·by_cases e:x.id=v.id
    ·simp[e] at this ⊢;omega
    ·simp[h,e] at this ⊢;omega
   ·by_cases e:x.id=v.id
    ·omega
    ·simp[h,e] at this ⊢;omega
  ·by_cases e:x.id=v.id
   ·simp[e] at this ⊢;omega
   ·simp[e] at this ⊢;omega
noncomputable def fe (l:List dx) (v:dx):List dx:=if dP l=true∧cE v=true then (if 64<(kW l v false).length then [] else kW l v false) else []
theorem rD {l:List dx} (h:dP l=true):l.length≤64:=(dr.1 h).2.2
def dX:List ay→List ay→List ay
 |out,[]=>out
 |out,p::l=>dX (fB out p.2 ((kd out p.2).1+1) false) l
def eU:List ay→List dx→List ay
 |out,[]=>out
 |out,d::l=>eU (dX out (aA d.map)) l
noncomputable def aX (l:List dx):List ay:=if dP l=true then eU [] l else []
theorem Gc (l:List ay) (p:ay):∀out,dX out (l++[p])=fB (dX out l) p.2 ((kd (dX out l) p.2).1+1) false:=by
 induction l with
 |nil=>intro out;simp only[List.nil_append,dX]
 |cons a l ih=>intro out;simp only[List.cons_append,dX];exact ih _
theorem Gd (l:List dx) (d:dx):∀out,eU out (l++[d])=dX (eU out l) (aA d.map):=by
 induction l with
 |nil=>intro out;simp only[List.nil_append,eU]
 |cons a l ih=>intro out;simp only[List.cons_append,eU];exact ih _
def T6 (m:Nat) (l:List ay):Prop:=l.length≤m∧∀x∈l,0≤x.2∧x.2≤m
theorem LY {m:Nat} {l:List ay} (h:T6 m l) (k:Int):0≤(kd l k).1∧(kd l k).1≤m:=by
 unfold kd
 split
 ·rename_i x hx;exact h.2 x (List.mem_of_find?_eq_some hx)
 ·simp
theorem Ge:∀(l:List ay) (k v:Int) (laid:Bool) (x:ay),x∈fB l k v laid→x∈l∨x=(k,v)
 |[],k,v,laid,x,h=>by cases laid <;> simp[fB] at h;exact .inr h
 |a::l,k,v,laid,x,h=>by
  simp only[fB,List.mem_append] at h;rcases h with (h|h)|h
  ·split at h
   ·simp at h;exact .inr h
   ·simp at h
  ·split at h
   ·simp at h
   ·simp at h;exact .inl (by rw[h];simp)
  ·rcases Ge l k v _ x h with h|h
   ·exact .inl (by simp[h])
   ·exact .inr h
theorem Va {m:Nat} {l:List ay} (h:T6 m l) (k:Int):T6 (m+1) (fB l k ((kd l k).1+1) false):=by
 refine ⟨by have:=qh l k ((kd l k).1+1) false;have:=h.1;simp at *;omega,fun x hx=>?_⟩;rcases Ge _ _ _ _ _ hx with hx|rfl
 ·have:=h.2 x hx;omega
 ·have:=LY h k;simp only;omega
theorem Cu (l:List ay):∀ {m:Nat} {out:List ay},T6 m out→T6 (m+l.length) (dX out l):=by
 induction l with
 |nil=>intro m out h;exact h
 |cons a l ih=>intro m out h;have:=ih (Va h a.2);simp only[dX,List.length_cons];rw[show m+(l.length+1)=m+1+l.length by omega];exact this
theorem oM {α:Type} {l:List α} {k:Nat} {s:α} (h:l[k]?=some s):l.take (k+1)=l.take k++[s]:=by obtain ⟨hk2,hx⟩:=List.getElem?_eq_some_iff.1 h;rw[List.take_succ_eq_append_getElem hk2,hx]
theorem Cv:∀(l:List dx) {m:Nat} {out:List ay},bM l→T6 m out→T6 (m+l.length*2000) (eU out l)
 |[],m,out,_,h=>by simpa [eU] using h
 |d::l,m,out,hl,h=>by
  have h1:=Cu (aA d.map) h;have h2:=hl d (by simp);unfold dK at h2;have h3:T6 (m+2000) (dX out (aA d.map)):=⟨by have:=h1.1;omega,fun x hx=>by have:=h1.2 x hx;omega⟩
  have:=Cv l (fun u hu=>hl u (by simp[hu])) h3;simp only[eU,List.length_cons];rw[show m+(l.length+1)*2000=m+2000+l.length*2000 by omega];exact this
theorem Gf (x:List dx) (v1:Value) (w:World) (h1:eQ w v1 x) (l1:bM x):Calls prog 35 #[v1] w fun e w'=>∃v',e=.returned v'∧dW w' v' (aX x)∧Bw w w':=by
 have xg:=aa l1;have Qd:=aa h1;clear l1;obtain ⟨p,cp,rfl,a1,a2,ha⟩:=h1;have HA:=aa ha;obtain ⟨N,hN⟩:=aG x.length;rw[hN] at a1 Qd;rw[hN];have hlc:=fG (n:=N) a2;have HN:=aa hN;clear ha hN a1 a2;go_enter func35,ntmps35;go_wp2_with fail;go_loopw [3,4,5,6,7,8] (fun v i _ _ _ _ wr=>∃(k:Nat) (vv:Value),vv=v∧k≤N∧(0<k→dP x=true)∧i=.int .i64 k∧dW wr v (eU [] (x.take k))∧Bw w wr) (fun _ i _ _ _ _ _=>N-(intOf i).toNat)
 case atStart=>exact ⟨0,_,rfl,dO,fun h=>by omega,rfl,by rw[List.take_zero];exact ⟨_,0,rfl,aT,by unfold maxLen;omega,fun i x h=>by simp[eU] at h⟩,ar⟩
 case round=>
  obtain ⟨k,vv,Yi,hk,tq,rfl,hown,hb⟩:=hrel;subst Yi;have HB:=aa hb;have HO:=aa hown;have eJ:=aa tq;clear hb hown tq;by_cases hlt:k<N
  case neg=>
   obtain rfl:k=N:=by omega
   have HF:=aa (show aX x=eU [] (x.take k) by
    rw[List.take_of_length_le (by rw[HN.o];exact aT)];unfold aX;by_cases h0:0<k
    ·rw[if_pos (eJ h0)]
    ·have:x=[]:=List.eq_nil_of_length_eq_zero (by rw[HN.o];omega)
     subst this;split <;> rfl)
   go_wp2_with fail;go_ret;exact ⟨_,rfl,by rw[HF.o];exact HO,HB⟩
  have fN:(k:Int)<(N:Int):=by omega
  obtain ⟨s,hs⟩:=fx (l:=x) (k:=k) (by rw[HN.o];omega);obtain ⟨i1,i2,g,o,a',b',c',rfl,e0,e1,e2,e3,e4,e5⟩:=HA.o k s hs;have HV0:=aa (show V5 g (o+k*5) s.id s.size a' b' c' w from ⟨e0,e1,e2,e3,e4⟩);have yn:=aa e5;have HS:=aa hs;have yO:=aa (xg.o s (List.mem_of_getElem? hs));clear e0 e1 e2 e3 e4 e5 i1 i2 hs;go_wp2_with fail;refine (sZ x _ _ (Qd.keep (af HB)) xg).mono ?_;rintro e w1 ⟨rfl,hb⟩;have aY:=bh HB hb;have LS:=aa (HO.keep (af hb));clear hb;cases hm:dP x with
  |false=>
   have HF:=aa (show aX x=eU [] (x.take k) by
    unfold aX;rw[hm,if_neg (by simp)];by_cases h0:0<k
    ·have:=eJ.o h0;rw[hm] at this;exact absurd this (by simp)
    ·obtain rfl:k=0:=by omega
     rfl)
   clear hm;go_wp2_with fail;go_ret;exact ⟨_,rfl,by rw[HF.o];exact LS,aY⟩
  |true=>
   have HM:=aa hm;have aiJ:N≤64:=by rw[← HN.o];exact rD hm
   clear hm;have HV:=aa (HV0.below aY);obtain ⟨r0,r1,r2,r3,r4⟩:=HV.o;go_wp2_with fail;refine (kq s.map _ _ _ _ (yn.keep (af aY)) (by have:=yO.o;unfold dK at this;omega)).mono ?_;rintro e w2 ⟨v2,rfl,hrow,hb⟩;have bS:=bh aY hb;have nD:=aa (LS.keep (af hb));have QG:=aa (nS _ yn);obtain ⟨pp,cpp,rfl,_,hcm,hcs⟩:=eC hrow;have QC:=aa hcs;have HT:=aa (show eU [] (x.take (k+1))=dX (eU [] (x.take k)) (aA s.map) by rw[oM HS.o,Gd]);have fJ:=aa (show T6 (64*2000) (eU [] (x.take k)) by
    have h1:=Cv (x.take k) (m:=0) (out:=[]) (fun d hd=>xg d (List.mem_of_mem_take hd)) ⟨by simp,fun x h=>by simp at h⟩;have h2:(x.take k).length≤64:=by rw[List.length_take];omega
    exact ⟨by have:=h1.1;omega,fun x hx=>by have:=h1.2 x hx;omega⟩)
   have hM:=yO.o;unfold dK at hM;obtain ⟨l,hl⟩:=aG (aA s.map);rw[hl] at QC HT QG hM ⊢;obtain ⟨JZ,hout⟩:∃o,eU [] (x.take k)=o:=⟨_,rfl⟩
   rw[hout] at nD HT fJ;obtain ⟨M,hMl⟩:=aG l.length;rw[hMl] at hM ⊢;have pY:=aa hMl;clear hb hrow hcs hl hMl hout hcm r0 r1 r2 r3 r4;go_wp2_with fail;go_loopw [3,6,7,8] (fun v i _ _ wr2=>∃(j:Nat) (vv2:Value),vv2=v∧j≤M∧i=.int .i64 j∧dW wr2 v (dX JZ (l.take j))∧Bw w wr2∧Bw w2 wr2) (fun _ i _ _ _=>M-(intOf i).toNat)
   case atStart=>exact ⟨0,_,rfl,dO,rfl,by rw[List.take_zero];exact nD,bS,aH⟩
   case round=>
    obtain ⟨j,vv2,aiK,hj,rfl,hown,hb,hb2⟩:=hrel;subst aiK;have HBI:=aa hb;have HOI:=aa hown;have T7:=aa hb2;clear hb hown hb2;by_cases iZ:j<M
    case neg=>
     obtain rfl:j=M:=by omega
     have HF:=aa (show eU [] (x.take (k+1))=dX JZ (l.take j) by rw[HT.o,List.take_of_length_le (by rw[pY.o];exact aT)]);go_wp2_with fail;go_roundw
     case rel=>exact ⟨k+1,_,rfl,by omega,fun _=>HM,by go_num,by rw[HF.o];exact HOI.o,HBI.o⟩
     case measure=>simp[intOf];omega
    have Gg:(j:Int)<(M:Int):=(by omega);obtain ⟨y,hy⟩:=fx (l:=l) (k:=j) (by rw[pY.o];omega);obtain ⟨g',o',rfl,y1,y2⟩:=QC.o j y hy;have nW:=aa y2;have HF:=aa (show dX JZ (l.take (j+1))=fB (dX JZ (l.take j)) y.2 ((kd (dX JZ (l.take j)) y.2).1+1) false by rw[oM hy,Gc]);have HBP:=aa (show T6 (64*2000+2000) (dX JZ (l.take j)) by
     have h1:=Cu (l.take j) fJ.o;have h2:(l.take j).length≤2000:=by rw[List.length_take];omega
     exact ⟨by have:=h1.1;omega,fun x hx=>by have:=h1.2 x hx;omega⟩)
    have r2:=ae T7 y2;obtain ⟨T,hT⟩:=aG (dX JZ (l.take j));rw[hT] at HF HBP HOI;clear hy y1 y2 hT;obtain ⟨yk,yv⟩:=y;simp only at r2 HF nW;have hgb:=LY HBP yv;obtain ⟨⟨G,GB⟩,hG⟩:∃G,kd T yv=G:=⟨_,rfl⟩
    rw[hG] at HF hgb;simp only at HF hgb;have Q6:=aa hG;clear hG;go_wp2_with fail;refine (zm T yv _ _ HOI).mono ?_;rintro e w3 ⟨rfl,rfl⟩;rw[Q6.o];simp only;go_wp2_with fail;refine (zn T yv (G+1) _ _ HOI (by have:=HBP.1;omega)).mono ?_;rintro e w4 ⟨v4,rfl,hrow,hb⟩;have Nk:=aa (eC hrow);have T9:=bh HBI hb;have vE:=bh T7 hb;clear hrow hb;go_wp2_with fail;go_roundw
    case rel=>exact ⟨j+1,_,rfl,by omega,by go_num,by rw[HF.o];exact Nk.o,T9.o,vE.o⟩
    case measure=>simp[intOf];omega
end Go.Proofs.YtbigkioechkngaaGreat
namespace Go.Proofs.YtbigkioechkngaaGreat
open Go.RowKit Go.Shelf
open Tryz
attribute [local go_sem] Oper.semAt_some
def Vb (x:ay):Array Value := #[.int .i64 x.1,.int .i64 x.2]
theorem zC (x y z:Value) (f u:Int) (w:World):Calls prog 122 #[.agg #[x,y,z],.int .i64 f,.int .i64 u] w fun e w'=>e=.returned (.func (.func 158) #[] #[.pointer (some ⟨w.heap.size,0,none⟩),.pointer (some ⟨w.heap.size+1,0,none⟩),.pointer (some ⟨w.heap.size+1+1,0,none⟩)]) ∧
 w'=((w.alloc (.cells #[x,y,z] 73)).alloc (.cells #[.int .i64 f] 3)).alloc (.cells #[.int .i64 u] 3):=by
 go_enter func122,ntmps122;go_wp2_with fail;go_ret;exact ⟨rfl,rfl⟩
theorem Q7 {w:World} {B g cap n:Nat} {l:List ay} (h:w.ownsRow B 82 2 (.slice (some ⟨g,0,none⟩) n cap) n (bJ l).flatten) {i:Nat} {x:ay} (hx:l[i]?=some x):w.cell? ⟨g,i*2,none⟩=some (.int .i64 x.1)∧w.cell? ⟨g,i*2+1,none⟩=some (.int .i64 x.2):=by
 obtain ⟨h1,h2⟩:=sV l i x hx;have hi:=(List.getElem?_eq_some_iff.1 hx).1;have hl:=vz l;constructor
 ·have:=bG h (i*2) (by omega)
  rw[List.getElem?_eq_getElem (by omega)] at h1;rw[this];exact h1
 ·have:=bG h (i*2+1) (by omega)
  rw[List.getElem?_eq_getElem (by omega)] at h2;rw[this];exact h2
theorem zD (n B:Nat) (M₀:Nat→Prop) (t:ag) (f u:Int) (x y z:Value) (w:World) (hn:bn (mask M₀ w) t x y z) (hlen:(aA t).length≤900000) (hx:gN B x y z w) (hf:w.cell? ⟨B+1,0,none⟩=some (.int .i64 f)) (hu:w.cell? ⟨B+1+1,0,none⟩=some (.int .i64 u)) :
 M9 n prog 158 #[.pointer (some ⟨B,0,none⟩),.pointer (some ⟨B+1,0,none⟩),.pointer (some ⟨B+1+1,0,none⟩)] Vb M₀ (jQ t f u) w:=by
 obtain ⟨L,hL⟩:=aG (jQ t f u);rw[hL];have nV:=aa hL;clear hL;intro l J Jx W hW LX hJ2 hY h0;obtain ⟨pu,nu,cu,pv,nv,cv,pw,nw,cw,rfl,rfl,rfl⟩:=aZ hn;obtain ⟨x0,x1,x2⟩:=hx.below hW;have y1:=ae hW hf;have y2:=ae hW hu;have Vc:=aa (Q5 t _ _ _ f u W ((hn.keep nE).keep (af hW)) hlen);have H1:=aa LX;have HY:=aa hY;have H0:=aa h0;clear hn hx hf hu hW LX hJ2 hY h0 hlen;refine callsIn_of_wp func158 rfl trivial ?_ rfl;simp only[ntmps158,List.size_toArray,List.length_cons,List.length_nil,Nat.reduceAdd,Nat.reduceSub,Array.replicate_succ,Array.replicate_zero,List.push_toArray,List.append_toArray,List.nil_append,List.cons_append];gi_wp2_with fail;refine ⟨trivial,fun h=>(by cases h),?_⟩;refine (callsIn_wide.2 Vc).mono ?_;rintro e W2 ⟨v,rfl,hrow,hb⟩;rw[nV.o] at hrow;have HJ:=aa (show J (fun b=>M₀ b∨(W.heap.size≤b∧b<W2.heap.size)) [] W2 from H1 M₀ _ [] W W2 H0 (aS hb none) (fun b hb=>hb));have Vd:∃p cap,v=.slice p L.length cap∧L.length≤maxLen:=by
  rcases aJ hrow with ⟨h1,h2,_⟩|⟨g,cap,h1⟩
  ·exact ⟨none,0,by rw[h1,h2],by unfold maxLen;omega⟩
  ·rw[h1] at hrow;obtain ⟨_,_,_,h3,h4,_⟩:=bl hrow;exact ⟨_,cap,h1,by omega⟩
 obtain ⟨p,cap,rfl,Ys⟩:=Vd;obtain ⟨N,hN⟩:=aG L.length;have bU:=aa hrow;have ll:=aa hN;rw[hN] at Ys ⊢;rw[hN] at bU;have hlc:=fG (n:=N) Ys;clear hrow hb x0 x1 x2 y1 y2 hN Ys;gi_wp2_with fail;gi_loopw [12,6] (fun i _ wr=>∃k:Nat,k≤N∧i=.int .i64 k∧J (fun b=>M₀ b∨(W.heap.size≤b∧b<W2.heap.size)) (L.take k) wr∧fp (fun b=>M₀ b∨(W.heap.size≤b∧b<W2.heap.size)) W2 wr) (fun i _ _=>N-(intOf i).toNat)
 case atStart=>exact ⟨0,dO,rfl,by rw[List.take_zero];exact HJ,fp.refl _ _⟩
 case round=>
  obtain ⟨k,hk,rfl,hj,tj⟩:=hrel;have Ct:=aa hj;have jZ:=aa tj;clear hj tj;by_cases hlt:k<N
  case neg=>
   obtain rfl:k=N:=by omega
   have HT:=aa (show L.take k=L from List.take_of_length_le (by rw[ll.o];exact aT));gi_wp2_with fail;go_end0;exact ⟨⟨_,rfl⟩,Or.inl ⟨_,by have:=Ct.o;rw[HT.o] at this;exact this⟩⟩
  have fN:(k:Int)<(N:Int):=by omega
  obtain ⟨x,hx⟩:=fx (l:=L) (k:=k) (by rw[ll.o];exact hlt);rcases aJ bU.o with ⟨_,h2,_⟩|⟨g,cap',h1⟩
  ·omega
  injection h1 with h1 _ h3;subst h1 h3;obtain ⟨c0,c1⟩:=Q7 bU hx;have Yt:W.heap.size≤g∧g<W2.heap.size:=bU.lt g rfl;have r0:=jZ.cell (.inr Yt) c0;have r1:=jZ.cell (.inr Yt) c1;have Jn:=aa (oM hx);have hg3:wr.grownBy (wr.alloc (.cells #[.int .i64 x.1,.int .i64 x.2] 82)) none:=World.grownBy_alloc _ _ _;have HG3:=aa hg3;have Q0:J (fun b=>M₀ b∨(W.heap.size≤b∧b<W2.heap.size)) (L.take k) (wr.alloc (.cells #[.int .i64 x.1,.int .i64 x.2] 82)):=H1.o _ _ _ wr _ Ct hg3 (fun b hb=>.inl hb);obtain ⟨fn,tmps,assign,body,QZ,hR⟩:=HY.o (n-1) _ _ x _ Q0 (by rw[← Jn.o];exact List.take_prefix _ _);simp only[Vb] at QZ;clear hx c0 c1 Yt hg3 Q0;gi_wp2_with fail;refine ⟨fun h=>(by cases h),?_⟩;refine hR.mono ?_;rintro e W4 (⟨rfl,LZ,hk4⟩|⟨rfl,L0⟩)
  ·have Q3:=aa LZ;have Nb:=aa ((jZ.trans (fp.grown HG3 (fun r e=>by cases e))).trans hk4)
   clear LZ hk4 r0 r1;gi_wp2_with fail;go_roundw
   case rel=>exact ⟨k+1,by omega,by go_num,by rw[Jn.o];exact Q3.o,Nb.o⟩
   case measure=>simp[intOf];omega
  ·have jK:=aa L0
   clear L0 r0 r1;gi_wp2_with fail;refine bodyPost_ret (results_none rfl _ _ _) rfl ?_;exact ⟨⟨_,rfl⟩,Or.inr ⟨L.take (k+1),List.take_prefix _ _,by rw[Jn.o];exact jK⟩⟩
attribute [local go_sem] Oper.semAt_some
def Ec:Int := -9223372036854775808
theorem Gh {d:dx} {w:World} {a b c:Value} (hn:bn w d.map a b c) (h:1≤d.id∧d.id≤1000∧0≤d.size∧d.size≤100000) (hm:jN d.map=true) :
 cE d=(!yx d.map&&(jQ d.map Ec lr).all (dG d.size)):=by
 have hb:=nS _ hn;have hw:jQ d.map Ec lr=(aA d.map).filter (fun x=>decide (x.1<lr)):=by unfold jQ uv;rw[if_pos hm];apply List.filter_congr;intro x hx;unfold inB;rw[decide_eq_true (show Ec≤x.1 from (hb x hx).1.1),Bool.true_and]
 have hmx:yx d.map=decide (lr∈dS d.map):=by unfold yx;rw[hm,Bool.true_and]
 unfold cE;rw[decide_eq_true h,hm,Bool.true_and,Bool.true_and,hw,hmx,Bool.eq_iff_iff];simp only[List.all_eq_true,Bool.and_eq_true,Bool.not_eq_true',decide_eq_false_iff_not,List.mem_filter,decide_eq_true_eq];constructor
 ·intro hall
  refine ⟨fun hk=>?_,fun x hx=>hall x hx.1⟩;unfold dS at hk;rw[List.mem_map] at hk;obtain ⟨x,hx,he⟩:=hk;have:=hall x hx;unfold dG at this;simp only[Bool.and_eq_true,decide_eq_true_eq] at this;unfold lr at he;omega
 ·rintro ⟨hk,hall⟩ x hx
  refine hall x ⟨hx,?_⟩;have h1:=(hb x hx).1.2;by_cases he:x.1=lr
  ·exact absurd (by unfold dS;rw[List.mem_map];exact ⟨x,hx,he⟩) hk
  ·unfold lr at *;omega
structure Ve (w:World) (S:Int) (M:Nat→Prop) (pre:List ay) (W:World):Prop where
 box:Boxed W (w.heap.size+1) 4 (.bool false)
 sz:W.cell? ⟨w.heap.size,1,none⟩=some (.int .i64 S)
 m1:¬M (w.heap.size+1)
 ml:∀b,M b→b<W.heap.size
 below:Bw w W
 all:∀x∈pre,dG S x=true
theorem Ve.kept {w:World} {S:Int} {M M':Nat→Prop} {pre:List ay} {A C:World} {row:Option Nat} (h:Ve w S M pre A) (hg:A.grownBy C row) (hr:∀r,row=some r→w.heap.size+2≤r) (hn:New M M' A C):Ve w S M' pre C:=by
 have Qi:∀b,b<w.heap.size+2→some b≠row:=fun b hb e=>by have:=hr b e.symm;omega
 refine ⟨h.box.kept hg (Qi _ (by omega)),hg.cell h.sz (Qi _ (by show w.heap.size<_;omega)),fun hm=>?_,fun b hm=>?_,?_,h.all⟩
 ·rcases hn _ hm with hm|hm
  ·exact h.m1 hm
  ·have:=h.box.lt;omega
 ·rcases hn b hm with hm|hm
  ·have:=h.ml b hm;have:=hg.size;omega
  ·exact hm.2
 ·exact ⟨hg.os.trans h.below.os,hg.tape.trans h.below.tape,hg.output.trans h.below.output,Nat.le_trans h.below.size hg.size,fun k hk=>(hg.block k (by have:=h.below.size;omega) (Qi k (by omega))).trans (h.below.block k hk)⟩
def acK (w:World) (S:Int) (c:Code) (pre:List ay) (W:World):Prop:=c=.ret∧Boxed W (w.heap.size+1) 4 (.bool false)∧Bw w W∧∃x∈pre,dG S x=false
def oN (t:ag):Prop:=(aA t).length≤600000
theorem dK.big {t:ag} (h:dK t):oN t:=by unfold dK at h;unfold oN;omega
theorem Nl (d:dx) (v:Value) (w:World) (hv:ve w v d) (hlen:oN d.map):Calls prog 157 #[v] w fun e w'=>e=.returned (.bool (cE d))∧Bw w w':=by
 obtain ⟨a,b,c,rfl,_,_,hn⟩:=hv;obtain ⟨pu,nu,cu,pv,nv,cv,pw,nw,cw,rfl,rfl,rfl⟩:=aZ hn;obtain ⟨I,hI⟩:=aG d.id;obtain ⟨S,hS⟩:=aG d.size;have HN:=aa hn;have HLEN:=aa hlen;have HIE:=aa hI;have zq:=aa hS;rw[hI,hS];clear hn hlen hI hS;obtain ⟨WA,kK⟩:∃W,(w.alloc (.cells #[.int .i64 I,.int .i64 S,.slice pu nu cu,.slice pv nv cv,.slice pw nw cw] 75)).alloc (.cells #[.bool false] 4)=W:=⟨_,rfl⟩
 have Fb:=aa (show pL w.heap.size (.int .i64 I) (.int .i64 S) (.slice pu nu cu) (.slice pv nv cv) (.slice pw nw cw) WA by rw[← kK];exact pL.below (w:=w.alloc (.cells #[.int .i64 I,.int .i64 S,.slice pu nu cu,.slice pv nv cv,.slice pw nw cw] 75)) ⟨by simp,by simp,by simp,by simp,by simp⟩ (ar));have xe:=aa (show Boxed WA (w.heap.size+1) 4 (.bool false) by
  rw[← kK];have:=Boxed.new (w.alloc (.cells #[.int .i64 I,.int .i64 S,.slice pu nu cu,.slice pv nv cv,.slice pw nw cw] 75)) 4 (.bool false)
  rwa [World.size_alloc] at this)
 have kB:=aa (show Bw w WA by rw[← kK];exact (ar).alloc (by simp) _);have UM:=aa kK;clear kK;rw[← callsIn_wide (n:=6)];refine callsIn_of_wp_marks func157 rfl trivial ?_ rfl;simp only[ntmps157,List.size_toArray,List.length_cons,List.length_nil,Nat.reduceAdd,Nat.reduceSub,Array.replicate_succ,Array.replicate_zero,List.push_toArray,List.append_toArray,List.nil_append,List.cons_append];obtain ⟨x0,x1,x2,x3,x4⟩:=Fb.o;have rc:=xe.cell;have rf:=xe.frozen;by_cases hA:1≤I∧I≤1000∧0≤S∧S≤100000
 case neg=>
  have HF:=aa (show cE d=false by unfold cE;rw[HIE.o,zq.o,decide_eq_false hA];simp);have hc:(decide (I<1)=true)∨(decide (I<1)=false∧decide (1000<I)=true)∨(decide (I<1)=false∧decide (1000<I)=false∧decide (S<0)=true)∨(decide (I<1)=false∧decide (1000<I)=false∧decide (S<0)=false∧decide (100000<S)=true):=by simp only[decide_eq_true_eq,decide_eq_false_iff_not];omega
  clear hA;have kK:=UM.o;rcases hc with h1|⟨h1,h2⟩|⟨h1,h2,h3⟩|⟨h1,h2,h3,h4⟩
  all_goals
   gi_wp2_with fail;have hb:=xe.set (.bool false);have Q8:=hb.cell;exact ⟨.bool false,by simp[results,results157,go_sem,Q8],aN HF.o.symm,kB.o.setCell (Nat.le_succ _) _⟩
 have h1:decide (I<1)=false:=by simp only[decide_eq_false_iff_not];omega
 have h2:decide (1000<I)=false:=by simp only[decide_eq_false_iff_not];omega
 have h3:decide (S<0)=false:=by simp only[decide_eq_false_iff_not];omega
 have h4:decide (100000<S)=false:=by simp only[decide_eq_false_iff_not];omega
 have HA:=aa hA;clear hA;have kK:=UM.o;gi_wp2_with fail;clear kK h1 h2 h3 h4 UM;refine ⟨trivial,?_⟩;refine (callsIn_wide.2 (Eb d.map _ _ _ _ (HN.keep (af kB)))).mono ?_;rintro e w1 ⟨rfl,hb⟩;have aU:=aa (Fb.below hb);have BO:=aa (show Boxed w1 (w.heap.size+1) 4 (.bool false) from xe.kept (aS hb none) (by simp));have aY:=bh kB hb;clear hb x0 x1 x2 x3 x4 rc rf Fb xe kB;obtain ⟨x0,x1,x2,x3,x4⟩:=aU.o;have rc:=BO.cell;have rf:=BO.frozen;cases hm:jN d.map with
 |false=>have HF:=aa (show cE d=false by unfold cE;rw[hm];simp);clear hm;gi_wp2_with fail;have hb:=BO.set (.bool false);have Q8:=hb.cell;exact ⟨.bool false,by simp[results,results157,go_sem,Q8],aN HF.o.symm,aY.o.setCell (Nat.le_succ _) _⟩
 |true=>
  have Nn:=aa (Gh HN (by rw[HIE.o,zq.o];exact HA) hm);clear hm;gi_wp2_with fail;refine ⟨trivial,?_⟩;refine (callsIn_wide.2 (U0 d.map _ _ _ _ (show Hid (_=lr) from rfl) _ (HN.keep (af aY)))).mono ?_;rintro e w2 ⟨gv,rfl,hb⟩;have dV:=aa (aU.below hb);have jO:=aa (show Boxed w2 (w.heap.size+1) 4 (.bool false) from BO.kept (aS hb none) (by simp));have bS:=bh aY hb;clear hb x0 x1 x2 x3 x4 rc rf aU BO aY;obtain ⟨x0,x1,x2,x3,x4⟩:=dV.o;have rc:=jO.cell;have rf:=jO.frozen;cases hx:yx d.map with
  |true=>have HF:=aa (show cE d=false by rw[Nn.o,hx];rfl);clear hx;gi_wp2_with fail;have hb:=jO.set (.bool false);have Q8:=hb.cell;exact ⟨.bool false,by simp[results,results157,go_sem,Q8],aN HF.o.symm,bS.o.setCell (Nat.le_succ _) _⟩
  |false=>
   have HF:=aa (show cE d=(jQ d.map Ec lr).all (dG S) by rw[Nn.o,hx,zq.o];rfl);clear hx;gi_wp2_with fail;refine ⟨trivial,?_⟩;refine (callsIn_wide.2 (zC _ _ _ Ec lr _)).mono ?_;rintro e w' ⟨rfl,rfl⟩;gi_wp2_with fail;obtain ⟨W0,hW0⟩:∃W,((w2.alloc (.cells #[.slice pu nu cu,.slice pv nv cv,.slice pw nw cw] 73)).alloc (.cells #[.int .i64 Ec] 3)).alloc (.cells #[.int .i64 lr] 3)=W:=⟨_,rfl⟩
   have hb3:=U8 w2 (.slice pu nu cu) (.slice pv nv cv) (.slice pw nw cw) (.int .i64 Ec) (.int .i64 lr);have hb0:Bw w2 W0:=by rw[← hW0];exact ((ar).alloc (by simp) _).alloc (by simp;omega) _
   rw[hW0] at hb3 ⊢;have dF:=aa hb3;have mU:=bh bS hb0;have Ua:=aa (show Boxed W0 (w.heap.size+1) 4 (.bool false) from jO.kept (aS hb0 none) (by simp));have HSW:=aa (show W0.cell? ⟨w.heap.size,1,none⟩=some (.int .i64 S) from ae hb0 x1);have hs2:w.heap.size+2≤W0.heap.size:=by have:=Ua.lt;omega
   have hseq:=zD 5 w2.heap.size (fun b=>b<w.heap.size) d.map Ec lr _ _ _ W0 (HN.keep (fun q v hv=>aq.2 ⟨World.block_lt_of_cell? _ _ hv,ae mU hv⟩)) (by have:=HLEN.o;unfold oN at this;omega) dF.1 dF.2.1 dF.2.2;clear hb3 hb0 hW0 x0 x1 x2 x3 x4 rc rf;refine ij (n:=6) (gf:=158) (lb := #[.pointer (some ⟨w2.heap.size,0,none⟩),.pointer (some ⟨w2.heap.size+1,0,none⟩),.pointer (some ⟨w2.heap.size+1+1,0,none⟩)]) (by omega) rfl (enters_of func158 (by kernel_rfl) rfl) hseq ?hM (fun _=>rfl) (Ve w S)
    (acK w S) ?i1 ?i2 ?x1 ?x2 ?start
    (fun _ x a' _=>a'={tmps := #[.agg #[.int .i64 I,.int .i64 S,.slice pu nu cu,.slice pv nv cv,.slice pw nw cw],.pointer (some ⟨w.heap.size,0,none⟩),.pointer (some ⟨w.heap.size+1,0,none⟩),.int .i64 gv,.bool false,.int .i64 x.1,.int .i64 x.2,uu,uu,.pointer (some ⟨w.heap.size,0,none⟩),.int .i64 I,.bool false,.bool false,.pointer (some ⟨w.heap.size,0,none⟩),.int .i64 I,.bool false,.bool false,.bool false,.pointer (some ⟨w.heap.size,1,none⟩),.int .i64 S,.bool false,.bool false,.bool false,.pointer (some ⟨w.heap.size,1,none⟩),.int .i64 S,.bool false,.bool false,.pointer (some ⟨w.heap.size,2,none⟩),.agg #[.slice pu nu cu,.slice pv nv cv,.slice pw nw cw],.bool true,.bool false,.tuple #[.int .i64 gv,.bool false],.pointer (some ⟨w.heap.size,2,none⟩),.agg #[.slice pu nu cu,.slice pv nv cv,.slice pw nw cw],.tuple #[.int .i64 gv,.bool false],.int .i64 gv,.bool false,.bool false,.pointer (some ⟨w.heap.size,2,none⟩),.agg #[.slice pu nu cu,.slice pv nv cv,.slice pw nw cw],.func (.func 158) #[] #[.pointer (some ⟨w2.heap.size,0,none⟩),.pointer (some ⟨w2.heap.size+1,0,none⟩),.pointer (some ⟨w2.heap.size+1+1,0,none⟩)],.int .i64 x.1,.int .i64 x.2,uu,uu,uu,uu,uu,uu,uu,uu,uu,uu,uu,uu,uu,uu,uu],defers:=[]}) ?ax ?assign ?body ?done ?stop
   case hM=>intro b hb;have:=mU.size;omega
   case i1=>exact fun M M' s A B h hg hn=>h.kept hg (fun r e=>by cases e) hn
   case i2=>exact fun M s A B r o h hg hr ho hc=>h.kept hg (fun r' e=>by cases e;omega) (fun b hb=>.inl hb)
   case x1=>rintro c s A B ⟨rfl,h1,h2,h3⟩ hg;exact ⟨rfl,h1.kept hg (by simp),⟨hg.os.trans h2.os,hg.tape.trans h2.tape,hg.output.trans h2.output,Nat.le_trans h2.size hg.size,fun k hk=>(hg.block k (by have:=h2.size;omega) (by simp)).trans (h2.block k hk)⟩,h3⟩
   case x2=>
    rintro c s A B r o ⟨rfl,h1,h2,h3⟩ hg hr ho hc;have hne:∀k,k<w.heap.size+2→some k≠some r:=fun k hk e=>by injection e with e;omega
    exact ⟨rfl,h1.kept hg (hne _ (by omega)),⟨hg.os.trans h2.os,hg.tape.trans h2.tape,hg.output.trans h2.output,Nat.le_trans h2.size hg.size,fun k hk=>(hg.block k (by have:=h2.size;omega) (hne k (by omega))).trans (h2.block k hk)⟩,h3⟩
   case start=>exact ⟨Ua,HSW,by omega,fun b hb=>by have:=mU.size;omega,mU,fun x hx=>by simp at hx⟩
   case ax=>exact fun M x a' A B r o h hg hr ho hc=>h
   case assign=>
    intro l M pre x W K hi hK
    dsimp only[Vb]
    gi_wp2;exact hK _ _ ⟨rfl,rfl,rfl,aT,fun _ _ _=>rfl⟩ rfl
   case body=>
    rintro l M pre x a' W hi rfl hlen;have HI:=aa hi;have cs:=hi.sz;have rb:=hi.box.cell;have rf:=hi.box.frozen;clear hi hseq;by_cases zt:x.1<0
    ·have HP:=aa (show dG S x=false by unfold dG;rw[decide_eq_false (by omega),Bool.and_false])
     have Qb:decide (x.1<0)=true:=decide_eq_true zt;gi_wp2;exact ⟨(KeepsOthers.setCell _ _ _).from _,rfl,HI.box.set _,HI.below.setCell (Nat.le_succ _) _,x,by simp,HP⟩
    ·have Qb:decide (x.1<0)=false:=decide_eq_false zt
     by_cases FX:S≤x.1
     ·have HP:=aa (show dG S x=false by unfold dG;rw[decide_eq_false (by omega),Bool.and_false])
      gi_wp2;exact ⟨(KeepsOthers.setCell _ _ _).from _,rfl,HI.box.set _,HI.below.setCell (Nat.le_succ _) _,x,by simp,HP⟩
     ·have hhj:¬S≤x.1:=FX
      have zE:x∈aA d.map:=by
       have h1:x∈jQ d.map Ec lr:=hlen.subset (by simp);unfold jQ at h1
       split at h1
       ·unfold uv at h1;exact (List.mem_filter.1 h1).1
       ·simp at h1
      have Xc:=aa ((nS _ HN) x zE).2;clear zE;gi_wp2_with fail;refine ⟨trivial,?_⟩;refine (CallsIn.inRound l (callsIn_wide.2 (vB x.2 Xc.1 Xc.2 W))).mono ?_;rintro e w3 ⟨rfl,hb⟩;obtain ⟨⟨rc,rp,rs,rb'⟩,FV⟩:∃r,JL x.2=r:=⟨_,rfl⟩
      rw[FV];simp only[aB.agg];obtain ⟨B2,TU⟩:∃b,rX x.2=b:=⟨_,rfl⟩
      rw[TU];have hg4:W.grownBy (w3.alloc (.cells #[.int .i64 rc,.int .i64 rp,.int .i64 rs,.bool rb'] 50)) none:=(aS hb none).trans (World.grownBy_alloc _ _ _);have Xm:=aa (HI.kept (M':=M) hg4 (fun r e=>by cases e) (fun b hb=>.inl hb));have Qj:=aa hg4;have Cw:=aa (HI.kept (M':=M) (aS hb none) (fun r e=>by cases e) (fun b hb=>.inl hb));have HG3:=aa (aS hb none);have HP:=aa (show dG S x=B2 by unfold dG;rw[TU,decide_eq_true (by omega),Bool.and_true]);have rb4:=Xm.box.cell;have rf4:=Xm.box.frozen;have hlx:w.heap.size+1<w3.heap.size:=by have:=(HI.box.kept (aS hb none) (by simp)).lt;exact this
      clear hb FV TU hg4 hlen cs rb rf;cases B2 with
      |true=>
       gi_wp2_with fail;refine ⟨KeepsFrom.of_grownBy Qj (fun j e=>by cases e),fp.grown Qj (fun r e=>by cases e),Xm.box,Xm.sz,Xm.m1,Xm.ml,Xm.below,fun y hy=>?_⟩;rw[List.mem_append,List.mem_singleton] at hy;rcases hy with hy|rfl
       ·exact Xm.all y hy
       ·exact HP.o
      |false=>gi_wp2_with fail;exact ⟨((KeepsFrom.of_grownBy HG3 (fun j e=>by cases e)).trans ((KeepsOthers.setCell _ _ _).from _)).trans ((KeepsOthers.alloc _ _).from _),rfl,(Cw.box.set _).alloc _,(Cw.below.setCell (Nat.le_succ _) _).alloc (by have:=Cw.below.size;simpa using this) _,x,by simp,HP⟩
   case done=>
    rintro D M W hD hi hK;have HI:=aa hi;have rb:=hi.box.cell;have rf:=hi.box.frozen;have HR:=aa (show cE d=true by rw[HF.o,List.all_eq_true];exact HI.all);clear hi hseq;gi_wp2;have hK2:(W.setCell ⟨w.heap.size+1,0,none⟩ (.bool true)).heap[D]?=some (.deferred (some [])):=by rw[Below.heap_setCell _ _ _ D (by show D≠w.heap.size+1;omega)];exact hK
    refine ⟨by simp,.inl ⟨_,_,rfl,run_takeDeferred hK2,?_⟩⟩;have hb:=(HI.box.set (.bool true)).kept (grownBy_putObj' _ D (.deferred none)) (by intro e;injection e with e;omega);have Q8:=hb.cell;exact ⟨.bool true,by simp[results,results157,go_sem,Q8],aN HR.o.symm,(HI.o.below.setCell (p:=⟨w.heap.size+1,0,none⟩) (Nat.le_succ _) _).trans (belowK_b (w:=w) aT _ D _ _ (by omega) hK2 rfl rfl)⟩
   case stop=>rintro D c pre W hD hp ⟨rfl,h1,h2,x,hx,hno⟩ hK;have HR:=aa (show cE d=false by rw[HF.o,List.all_eq_false];exact ⟨x,hp.subset hx,by rw[hno];simp⟩);have H1:=aa h1;have H2:=aa h2;clear h1 h2 hseq hp hx hno;gi_wp2;refine ⟨by simp,.inl ⟨_,_,rfl,run_takeDeferred hK,?_⟩⟩;have hb:=H1.kept (grownBy_putObj' _ D (.deferred none)) (by intro e;injection e with e;omega);have Q8:=hb.cell;exact ⟨.bool false,by simp[results,results157,go_sem,Q8],aN HR.o.symm,H2.o.trans (belowK_b (w:=w) aT _ D _ _ (by omega) hK rfl rfl)⟩
end Go.Proofs.YtbigkioechkngaaGreat
namespace Go.Proofs.YtbigkioechkngaaGreat
open Go.RowKit Tryz
variable {l:List Bool}{B b k n:Nat}{v:Value}{W W' w w':World}
theorem Ed {l:List dx} (h:64<l.length):dP l=false:=by rw[← Bool.not_eq_true,dr];rintro ⟨_,_,h3⟩;omega
def zF (l:List dx):Prop:=∀d∈l,oN d.map
theorem Cx (x:List dx) (v1:Value) (w:World) (h1:eQ w v1 x) (l1:zF x):Calls prog 120 #[v1] w fun e w'=>e=.returned (.bool (dP x))∧Bw w w':=by
 obtain ⟨p,cp,rfl,a1,a2,ha⟩:=h1;have HA:=aa ha;obtain ⟨N,hN⟩:=aG x.length;rw[hN] at a1;rw[hN];have hlc:=fG (n:=N) a2;have HN:=aa hN;have xg:=aa l1;clear ha hN a1 a2 l1;by_cases h64:64<N
 ·have HF:=aa (Ed (l:=x) (by rw[HN.o];exact h64))
  have aiM:(64:Int)<(N:Int):=by omega
  clear h64;go_enter func120,ntmps120;go_wp2_with fail;go_ret;exact ⟨aN HF.symm,aH⟩
 have aiM:¬(64:Int)<(N:Int):=by omega
 have H64:=aa h64;clear h64;go_enter func120,ntmps120;go_wp2_with fail;go_loopw [10,3,4] (fun i _ _ wr=>∃k:Nat,k≤N∧i=.int .i64 k∧(∀(j:Nat) a,j<k→x[j]?=some a→cE a=true)∧(∀(j:Nat) a b,j+1<k→x[j]?=some a→x[j+1]?=some b→a.id<b.id)∧Bw w wr) (fun i _ _ _=>N-(intOf i).toNat)
 case atStart=>exact ⟨0,dO,rfl,fun j a hj=>by omega,fun j a b hj=>by omega,aH⟩
 case round=>
  obtain ⟨k,hk,rfl,hall,QI,hb⟩:=hrel;have ed:=aa hall;have Xg:=aa QI;have HB:=aa hb;clear hall hb QI;by_cases hlt:k<N
  case neg=>
   obtain rfl:k=N:=by omega
   have HF:=aa (show dP x=true by
    rw[Cr (fun j a h=>ed j a (by have:=(List.getElem?_eq_some_iff.1 h).1;have:=HN.o;omega) h) (fun j a b ha hb=>Xg j a b (by have:=(List.getElem?_eq_some_iff.1 hb).1;have:=HN.o;omega) ha hb),HN.o,decide_eq_true_eq];have:=H64.o;omega)
   go_wp2_with fail;go_ret;exact ⟨aN HF.symm,HB⟩
  have fN:(k:Int)<(N:Int):=by omega
  obtain ⟨s,hs⟩:=fx (l:=x) (k:=k) (by rw[HN.o];omega);obtain ⟨i1,i2,g,o,a,b,c,rfl,e0,e1,e2,e3,e4,e5⟩:=HA.o k s hs;obtain ⟨pa,na,ca,pb,nb,cb,pc,nc,cc,rfl,rfl,rfl⟩:=aZ e5;have HV:=aa (show V5 g (o+k*5) s.id s.size (.slice pa na ca) (.slice pb nb cb) (.slice pc nc cc) wr from V5.below ⟨e0,e1,e2,e3,e4⟩ HB);have yu:=aa (And.intro i1 (And.intro i2 (e5.keep (af HB))));have HS:=aa hs;have HM:=aa (xg.o s (List.mem_of_getElem? hs));clear hs e0 e1 e2 e3 e4 e5 i1 i2;obtain ⟨SI,Yu⟩:∃S,s.id=S:=⟨_,rfl⟩
  have zq:=aa Yu;rw[Yu] at HV;clear Yu;obtain ⟨W1,hW1⟩:=aG (wr.alloc (.cells #[.int .i64 SI,.int .i64 s.size,.slice pa na ca,.slice pb nb cb,.slice pc nc cc] 75));have hb1:Bw wr W1:=by rw[← hW1];exact ar
  have aU:=aa (show pL wr.heap.size (.int .i64 SI) (.int .i64 s.size) (.slice pa na ca) (.slice pb nb cb) (.slice pc nc cc) W1 by rw[← hW1];exact ⟨by simp,by simp,by simp,by simp,by simp⟩);have aY:=aa hb1;have jl:=bh HB hb1;have ee:=aa hW1;clear hW1 hb1;obtain ⟨r0,r1,r2,r3,r4⟩:=HV.o;have Xn:(k=0∨∃m t,k=m+1∧x[m]?=some t∧t.id<SI)∨(∃m t,k=m+1∧x[m]?=some t∧¬t.id<SI):=by
   rcases Nat.eq_zero_or_pos k with h0|h0
   ·exact .inl (.inl h0)
   ·obtain ⟨t,ht⟩:=fx (l:=x) (k:=k-1) (by rw[HN.o];omega)
    by_cases h:t.id<SI
    ·exact .inl (.inr ⟨k-1,t,by omega,ht,h⟩)
    ·exact .inr ⟨k-1,t,by omega,ht,h⟩
  have Yv:=aa Xn;clear Xn;go_upto_region 6 with fail;rw[ee.o];clear r0 r1 r2 r3 r4;obtain ⟨x0,x1,x2,x3,x4⟩:=aU.o;have hlx:=World.block_lt_of_cell? _ _ x0;rcases Yv.o with fg|⟨m,t,hm,ht,hno⟩
  case inr=>
   have HF:=aa (qq ht (show x[m+1]?=some s by rw[← hm];exact HS) (by rw[zq.o];exact hno));obtain ⟨_,_,g',o',_,_,_,LU,f0,_⟩:=HA.o m t ht;cases LU;have t0:=ae aY (ae HB f0);have e5:IntKind.i64.wrap ((k:Int)-1)=(m:Int):=by rw[IntKind.wrap_i64];omega
   have e6:(m:Int)<(N:Int):=(by omega);have hg3:decide (0<k)=true:=decide_eq_true (by omega);have Xb:SI≤t.id:=by omega
   clear hm ht f0 hno;go_quiet (fail);go_wp2_with fail;go_ret;exact ⟨aN HF.symm,az jl _⟩
  have HGD:=aa fg;clear fg;go_cut [27] from 15 to 26 (fun v wx=>v=.bool false∧∃q,wx=W1.drewN q)
  case first=>
   rcases HGD.o with h0|⟨m,t,hm,ht,iZ⟩
   ·subst h0
    have hg3:decide (0<0)=false:=rfl;go_quiet (fail);go_wp2_with fail;go_meet
    case rel=>exact ⟨rfl,_,rfl⟩
   ·obtain ⟨_,_,g',o',_,_,_,LU,f0,_⟩:=HA.o m t ht
    cases LU;have t0:=ae aY (ae HB f0);have e5:IntKind.i64.wrap ((k:Int)-1)=(m:Int):=by rw[IntKind.wrap_i64];omega
    have e6:(m:Int)<(N:Int):=(by omega);have hg3:decide (0<k)=true:=decide_eq_true (by omega);have Xb:decide (SI≤t.id)=false:=decide_eq_false (by omega);clear hm ht f0 iZ;go_quiet (fail);go_wp2_with fail;go_meet
    case rel=>exact ⟨rfl,_,rfl⟩
  case rest=>
   obtain ⟨rfl,q,rfl⟩:=hcut;have HXQ:=aa (aU.below (az aH q));have vF:=aa (az jl q);have acM:=aa (az aY q);clear x0 x1 x2 x3 x4 hlx;obtain ⟨x0,x1,x2,x3,x4⟩:=HXQ.o;have hlx:=World.block_lt_of_cell? _ _ x0;obtain ⟨WQ,hWQ⟩:∃W,W1.drewN q=W:=⟨_,rfl⟩
   rw[hWQ] at HXQ vF acM x0 x1 x2 x3 x4 hlx ⊢;clear hWQ;go_wp2_with fail;refine (Nl s _ _ ⟨_,_,_,by rw[zq.o],yu.1,yu.2.1,yu.2.2.keep (af acM)⟩ HM).mono ?_;rintro e w3 ⟨rfl,hb⟩;have dF:=bh vF hb;clear hb x0 x1 x2 x3 x4 hlx;obtain ⟨bb,iY⟩:=aG (cE s);rw[iY];have uq:=aa iY;clear iY;cases bb with
   |false=>have HF:=aa (ql HS uq);go_wp2_with fail;go_ret;exact ⟨aN HF.symm,dF⟩
   |true=>
    go_wp2_with fail;go_roundw
    case rel=>
     refine ⟨k+1,by omega,by go_num,fun j a' hj ji=>?_,fun j a' b' hj ji BB=>?_,dF.o⟩
     ·by_cases e:j=k
      ·subst e;rw[HS.o] at ji;cases ji;exact uq.o
      ·exact ed j a' (by omega) ji
     ·by_cases e:j+1=k
      ·rcases HGD.o with h0|⟨m,t,hm,ht,iZ⟩
       ·omega
       ·obtain rfl:j=m:=by omega
        rw[ht] at ji;rw[e,HS.o] at BB;cases ji;cases BB;rw[zq.o];exact iZ
      ·exact Xg j a' b' (by omega) ji BB
    case measure=>simp[intOf];omega
theorem alloc_old {o x:Obj} (h:W.heap[k]?=some x):(W.alloc o).heap[k]?=some x:=((World.grownBy_alloc W o none).block k (Array.getElem?_eq_some_iff.1 h).1 (by simp)).trans h
theorem Np {T:TypeId} {u0 u1 u2 u3 u4:Value} (h:W.heap[b]?=some (.cells #[u0,u1,u2,u3,u4] T (0,0))) :
 W.cell? ⟨b,0,none⟩=some u0∧W.cell? ⟨b,1,none⟩=some u1∧W.cell? ⟨b,2,none⟩=some u2∧W.cell? ⟨b,3,none⟩=some u3∧W.cell? ⟨b,4,none⟩=some u4:=by
 simp[World.cell?,h]
theorem Nq {c:Array Value} {T:TypeId} (h:W.heap[b]?=some (.cells c T (0,0))) (j:Nat):W.frozen? ⟨b,j,none⟩=false:=by simp[World.frozen?,h]
theorem dQ {R i:Nat} (h:i<R):R-(intOf (.int .i64 ((i:Int)+1))).toNat<R-(intOf (.int .i64 (i:Int))).toNat:=by simp only[intOf];omega
theorem mV (h:Bw w W) (hb:Below B W W') (hB:w.heap.size≤B):Bw w W':=h.trans (hb.mono hB)
theorem jz {W0 A C:World} {row:Option Nat} (h:Below B W0 A) (hs:B≤A.heap.size) (hg:A.grownBy C row) (hr:∀b,b<B→some b≠row):Below B W0 C:=
 ⟨hg.os.trans h.os,hg.tape.trans h.tape,hg.output.trans h.output,Nat.le_trans h.size hg.size,fun k hk=>(hg.block k (by omega) (hr k hk)).trans (h.block k hk)⟩
theorem gS {D:Nat} (h:Below D W W') (hD:B≤D):Below B W W':=⟨h.os,h.tape,h.output,h.size,fun k hk=>h.block k (Nat.lt_of_lt_of_le hk hD)⟩
theorem J0 {d:dx} {S:Int} (h:cE d=true) (hS:d.size=S):jQ d.map 0 S=aA d.map:=by unfold cE at h;simp only[Bool.and_eq_true,List.all_eq_true] at h;obtain ⟨⟨_,h2⟩,h3⟩:=h;unfold jQ uv;rw[if_pos h2,List.filter_eq_self];intro x hx;have:=h3 x hx;unfold dG at this;simp only[Bool.and_eq_true,decide_eq_true_eq] at this;unfold inB;rw[← hS,decide_eq_true (show 0≤x.1 by omega),decide_eq_true (show x.1<d.size by omega)];rfl
def Q9 (w:World) (b:Nat):Prop:=∃c t,w.heap[b]?=some (.cells c t (0,0))
def aiN (W:World) (q:Nat):Prop:=∃c,W.heap[q]?=some (.cells c 3 (0,0))
def Yw (B:Nat) (W:World):Nat→Prop:=fun q=>B≤q∧aiN W q
def vG (B:Nat) (W:World):Nat→Prop:=fun q=>B≤q∧Q9 W q
theorem oO {q:Nat} (h:Q9 w q) (hb:Bw w W):Q9 W q:=by obtain ⟨c,t,hc⟩:=h;exact ⟨c,t,(hb.block q (Array.getElem?_eq_some_iff.1 hc).1).trans hc⟩
theorem zG {B':Nat} (hg:W.grownBy W' (some b)) (hb:b<B) (hB:B'≤B):dI (mask (vG B W) W) (mask (vG B' W') W'):=bF fun a v hf hv=>by
 have hne:some a.block≠some b:=fun e=>by injection e with e;have:=hf.1;omega
 refine ⟨⟨by have:=hf.1;omega,?_⟩,hg.cell hv hne⟩;obtain ⟨c,t,hc⟩:=hf.2;exact ⟨c,t,(hg.block a.block (Array.getElem?_eq_some_iff.1 hc).1 hne).trans hc⟩
theorem eM (h:Below B w W) (j:Nat) (u:Value):Below B w (W.setCell ⟨B,j,none⟩ u):=
 have hg:=av W B j u
 ⟨hg.os.trans h.os,hg.tape.trans h.tape,hg.output.trans h.output,Nat.le_trans h.size hg.size,fun k hk=>(Below.heap_setCell _ _ _ k (fun e=>by simp only at e;omega)).trans (h.block k hk)⟩
def nX (B:Nat) (v:Value) (W:World):Nat→Prop:=fun b=>vG B W b∧some b≠v.ownBlock
def eo (u v:Value):Prop:=u.ownBlock=none∨u.ownBlock≠v.ownBlock
def zH (W w2:World) (v v':Value):Prop:=∀(B' e' k':Nat) (u:Value) (m:Nat) (ys:List Value),W.ownsRow B' e' k' u m ys→eo u v→w2.ownsRow B' e' k' u m ys∧eo u v'∧eo v' u
theorem rE {W1 w2:World} {v':Value} (ha:∀(B' e' k':Nat) (u:Value) (m:Nat) (ys:List Value),W.ownsRow B' e' k' u m ys→W1.ownsRow B' e' k' u m ys) (hg:W1.grownBy w2 v.ownBlock) (hb:v'.ownBlock=v.ownBlock∨v'.ownBlock=some W1.heap.size):zH W w2 v v':=by
 intro B' e' k' u m ys h hap;have h1:=ha B' e' k' u m ys h;have h2:u.ownBlock=none∨u.ownBlock≠v'.ownBlock:=by
  rcases hap with hap|hap
  ·exact .inl hap
  ·rcases hb with hb|hb
   ·exact .inr (by rw[hb];exact hap)
   ·refine .inr fun e=>?_
    rw[hb] at e;have:=(h1.lt _ e).2;omega
 refine ⟨h1.kept hg hap,h2,?_⟩;rcases h2 with h2|h2
 ·rcases hb':v'.ownBlock with _|b
  ·exact .inl hb'
  ·exact .inr (by rw[hb',h2];simp)
 ·exact .inr fun e=>h2 e.symm
theorem qx {l:List Int} (hl:∀x∈l,aQ x) (h:W.ownsRow B 3 1 v l.length (bw l)):fA (mask (Yw B W) W) v l:=by
 rcases aJ h with ⟨hv,hn,_⟩|⟨g,cap,hv⟩
 ·exact ⟨none,0,by rw[hv,hn],by omega,by unfold maxLen;omega,fun i x hx=>by rw[List.eq_nil_of_length_eq_zero hn] at hx;simp at hx⟩
 ·subst hv
  obtain ⟨cur,hc,hb,h3,h4,_⟩:=bl h;refine ⟨_,cap,rfl,h3,h4,fun i x hx=>⟨hl x (List.mem_of_getElem? hx),g,0,rfl,aq.2 ⟨⟨hb,cur,hc⟩,?_⟩⟩⟩;have hi:=(List.getElem?_eq_some_iff.1 hx).1;have:=bG h i (by unfold bw;rw[List.length_map];exact hi);rw[Nat.zero_add,this];unfold bw;rw[List.getElem_map];obtain ⟨_,rfl⟩:=List.getElem?_eq_some_iff.1 hx;rfl
theorem jA {e:TypeId} {xs:List Value} (h:w.ownsRow B e k v n xs):∃p m c,v=.slice p m c:=by
 rcases aJ h with ⟨h1,_⟩|⟨g,cap,h1⟩
 ·exact ⟨_,_,_,h1⟩
 ·exact ⟨_,_,_,h1⟩
theorem Ra {F:Nat→Prop} {g o:Nat} {l:List ag} (h:∀j t,l[j]?=some t→pV (mask F w) (some ⟨g,o,none⟩) j t) :
 ∃xs:List Value,iK w (some ⟨g,o,none⟩) l.length 3 xs∧∀j t,l[j]?=some t→∃x y z,xs[j*3]?=some x∧xs[j*3+1]?=some y∧xs[j*3+2]?=some z∧bn (mask F w) t x y z:=by
 have hcell:∀i,i<l.length*3→∃u,w.cell? ⟨g,o+i,none⟩=some u∧u.oneCell'=true:=fun i hi=>by
  obtain ⟨t,ht⟩:=fx (l:=l) (k:=i/3) (by omega);obtain ⟨g',o',x,y,z,e,e1,e2,e3,e4⟩:=h (i/3) t ht;injection e with e;injection e with e5 e6;subst e5 e6;obtain ⟨pu,nu,cu,pv,nv,cv,pw,nw,cw,rfl,rfl,rfl⟩:=aZ e4;have hm:i%3=0∨i%3=1∨i%3=2:=by omega
  rcases hm with hm|hm|hm
  ·refine ⟨.slice pu nu cu,?_,rfl⟩;rw[show o+i=o+i/3*3 by omega];exact (aq.1 e1).2
  ·refine ⟨.slice pv nv cv,?_,rfl⟩;rw[show o+i=o+i/3*3+1 by omega];exact (aq.1 e2).2
  ·refine ⟨.slice pw nw cw,?_,rfl⟩;rw[show o+i=o+i/3*3+2 by omega];exact (aq.1 e3).2
 refine ⟨(List.range (l.length*3)).map fun i=>(w.cell? ⟨g,o+i,none⟩).getD uu,⟨by simp,fun h=>(by cases h),fun u hu=>?_,fun a ha j u hu=>?_⟩,fun j t ht=>?_⟩
 ·rw[List.mem_map] at hu
  obtain ⟨i,hi,rfl⟩:=hu;obtain ⟨u,h1,h2⟩:=hcell i (List.mem_range.1 hi);rw[h1];exact h2
 ·injection ha with ha;subst ha
  rw[List.getElem?_map] at hu;by_cases hj:j<l.length*3
  ·rw[List.getElem?_range hj] at hu
   obtain ⟨u',h1,h2⟩:=hcell j hj;simp only[Option.map_some,h1,Option.getD_some,Option.some.injEq] at hu;subst hu;rw[nA];exact h1
  ·rw[List.getElem?_eq_none (by simpa using hj)] at hu;cases hu
 ·obtain ⟨g',o',x,y,z,e,e1,e2,e3,e4⟩:=h j t ht
  injection e with e;injection e with e5 e6;subst e5 e6;have hj:=(List.getElem?_eq_some_iff.1 ht).1;refine ⟨x,y,z,?_,?_,?_,e4⟩
  ·rw[List.getElem?_map,List.getElem?_range (by omega),Option.map_some,(aq.1 e1).2];rfl
  ·rw[List.getElem?_map,List.getElem?_range (by omega),Option.map_some,show o+(j*3+1)=o+j*3+1 by omega,(aq.1 e2).2];rfl
  ·rw[List.getElem?_map,List.getElem?_range (by omega),Option.map_some,show o+(j*3+2)=o+j*3+2 by omega,(aq.1 e3).2];rfl
structure ku (W w2:World) (B n:Nat) (E:TypeId) (k:Nat) (v:Value) (xs news:List Value) (g cap:Nat):Prop where
 row:w2.ownsRow B E k (.slice (some ⟨g,0,none⟩) (n+1) cap) (n+1) (xs++news)
 below:Below B W w2
 others:zH W w2 v (.slice (some ⟨g,0,none⟩) (n+1) cap)
 cells:∀a x,W.cell? a=some x→some a.block≠v.ownBlock→w2.cell? a=some x
 grown:W.grownBy w2 v.ownBlock
 at_:(Value.slice (some ⟨g,0,none⟩) (n+1) cap).ownBlock=v.ownBlock∨W.heap.size≤g
theorem il {w2:World} {o:Obj} {row:Option Nat} (h:(W.alloc o).grownBy w2 row):W.grownBy w2 row:=aW (World.grownBy_alloc W o row) h
theorem eV {P:Program} (T E:TypeId) (i0:TypeInfo) (z:Value) (k bytes:Nat) (hT:P.underlying T=some (.slice E)) (hi:P.info? E=some i0) (hz:i0.zero=some z) (hs:i0.size=k) (hb:i0.bytes=bytes) (hzs:z.cells.size=k) (hk:0<k) (hby:bytes≤1000)
 (W:World) (B n:Nat) (v:Value) (xs news:List Value) (hown:W.ownsRow B E k v n xs) (hl:news.length=k) (h1:∀u∈news,u.oneCell'=true) (hn:n≤100000000) (hB:B≤W.heap.size) :
 ∃g cap w2,(Builtin.append_ #[T,T] T #[v,.slice (some ⟨W.heap.size,0,none⟩) 1 1]).run P (W.alloc (.cells news.toArray E))=.ok (.slice (some ⟨g,0,none⟩) (n+1) cap) w2∧ku W w2 B n E k v xs news g cap:=by
 obtain ⟨v',w',e1,e2,e3,_,e5⟩:=run_append_own_at (P:=P) (W.alloc (.cells news.toArray E)) B T T E i0 z k bytes hT hi hz hs hb hzs hk v n xs (hown.alloc _) ⟨W.heap.size,0,none⟩ 1 1 news (by rw[hl,Nat.one_mul]) (by
  intro j u hu;rw[jM,World.cell?_alloc_at _ _ _ _ rfl]
  simpa using hu) h1 (by unfold maxLen;omega) (by
  have:(n+1)*bytes≤(n+1)*1000:=Nat.mul_le_mul_left _ hby;omega) (by simp;omega)
 obtain ⟨g,cap,rfl⟩:=ownsRow_succ e2;refine ⟨g,cap,w',e1,e2,lR aH hB hown e3,rE (fun B' e' k' u m ys h=>h.alloc _) e3 e5,fun a x hx hne=>e3.cell (ae (ar) hx) hne,il e3,?_⟩;rcases e5 with e|e
 ·exact .inl e
 ·refine .inr ?_
  have:g=(W.alloc (.cells news.toArray E)).heap.size:=by simpa [Value.ownBlock] using e
  rw[this];simp
theorem aL {e:TypeId} {xs:List Value} (h:w.ownsRow B e k v n xs) (hb:Bw w w'):w'.ownsRow B e k v n xs:=by
 refine ⟨h.1,?_⟩;rcases h.2 with h1|⟨g,cap,cur,h1,h2,h3,h4⟩
 ·exact .inl h1
 ·exact .inr ⟨g,cap,cur,h1,h2,(hb.block g (Array.getElem?_eq_some_iff.1 h3).1).trans h3,h4⟩
theorem Rb (w:World) (B n k:Nat) (e:TypeId) (cur:Array Value) (hb:B≤w.heap.size) (hn:n≤maxLen) (hs:cur.size=n*k):(w.alloc (.cells cur e)).ownsRow B e k (.slice (some ⟨w.heap.size,0,none⟩) n n) n cur.toList:=
 ⟨by simpa using hs,.inr ⟨w.heap.size,n,cur,rfl,hb,World.alloc_heap_new w _,aT,hn,hs,by rw[List.take_of_length_le (by simpa using Nat.le_of_eq hs)]⟩⟩
def bk {α:Type} (f:α→List Value) (l:List α):List Value:=(l.map f).flatten
theorem fC {α:Type} (f:α→List Value) (l:List α) (x:α):bk f l++f x=bk f (l++[x]):=by unfold bk;rw[List.map_append,List.flatten_append];simp
theorem lI {α:Type} {f:α→List Value} {k:Nat} (hf:∀x,(f x).length=k):∀l:List α,(bk f l).length=l.length*k
 |[]=>by simp[bk]
 |a::l=>by have h:=lI hf l;unfold bk at *;rw[List.map_cons,List.flatten_cons,List.length_append,h,hf,List.length_cons,Nat.add_mul];omega
theorem eN {α:Type} {f:α→List Value} {k:Nat} (hf:∀x,(f x).length=k):∀(l:List α) (i:Nat) (x:α) (j:Nat) (u:Value),l[i]?=some x→(f x)[j]?=some u→(bk f l)[i*k+j]?=some u
 |[],i,x,j,u,h,_=>by simp at h
 |a::l,i,x,j,u,h,hj=>by
  have e:bk f (a::l)=f a++bk f l:=by unfold bk;rw[List.map_cons,List.flatten_cons]
  rw[e];cases i with
  |zero=>simp only[List.getElem?_cons_zero,Option.some.injEq] at h;subst h;have D7:=(List.getElem?_eq_some_iff.1 hj).1;rw[Nat.zero_mul,Nat.zero_add,List.getElem?_append_left D7];exact hj
  |succ i=>rw[List.getElem?_cons_succ] at h;rw[List.getElem?_append_right (by rw[hf,Nat.add_mul];omega),hf,show (i+1)*k+j-k=i*k+j by rw[Nat.add_mul];omega];exact eN hf l i x j u h hj
def dw {α:Type} (w:World) (v:Value) (k:Nat) (f:α→List Value) (l:List α):Prop:=
 ∃p c,v=.slice p l.length c∧l.length≤c∧c≤maxLen∧(p=none→c=0)∧∀i x,l[i]?=some x→∃g o,p=some ⟨g,o,none⟩∧∀j u,(f x)[j]?=some u→w.cell? ⟨g,o+i*k+j,none⟩=some u
theorem dw.keep {α:Type} {f:α→List Value} {l:List α} (h:dw w v k f l) (hk:dI w w'):dw w' v k f l:=by obtain ⟨p,c,h1,h2,h3,h5,h4⟩:=h;refine ⟨p,c,h1,h2,h3,h5,fun i x hx=>?_⟩;obtain ⟨g,o,h5,h6⟩:=h4 i x hx;exact ⟨g,o,h5,fun j u hj=>hk _ _ (h6 j u hj)⟩
theorem lu {α:Type} (w:World) (k:Nat) (f:α→List Value):dw w (.slice none 0 0) k f []:=⟨none,0,rfl,aT,by unfold maxLen;omega,fun _=>rfl,fun i x hx=>by simp at hx⟩
theorem kx {α:Type} {e:TypeId} {f:α→List Value} {l:List α} (hf:∀x,(f x).length=k) (hn:l.length=n) (h:w.ownsRow B e k v n (bk f l)):dw w v k f l:=by
 subst hn;rcases aJ h with ⟨hv,hn,_⟩|⟨g,cap,hv⟩
 ·exact ⟨none,0,by rw[hv,hn],by omega,by unfold maxLen;omega,fun _=>rfl,fun i x hx=>by rw[List.eq_nil_of_length_eq_zero hn] at hx;simp at hx⟩
 ·subst hv
  obtain ⟨_,_,_,h3,h4,_⟩:=bl h;refine ⟨_,cap,rfl,h3,h4,(fun e=>by cases e),fun i x hx=>⟨g,0,rfl,fun j u hj=>?_⟩⟩;obtain ⟨h6,h7⟩:=List.getElem?_eq_some_iff.1 (eN hf l i x j u hx hj);rw[Nat.zero_add,bG h _ h6,h7]
theorem dw.src {α:Type} {f:α→List Value} {l:List α} (hf:∀x,(f x).length=k) (h1:∀x,∀u∈f x,u.oneCell'=true) (hk:0<k) (h:dw w v k f l):∃p c,v=.slice p l.length c∧l.length≤c∧c≤maxLen∧(p=none→c=0)∧iK w p l.length k (bk f l):=by
 obtain ⟨p,c,e,hc1,hc2,h3,h4⟩:=h;refine ⟨p,c,e,hc1,hc2,h3,lI hf l,fun hp=>by have:=h3 hp;omega,?_,?_⟩
 ·intro u hu
  unfold bk at hu;obtain ⟨q,hq,hu⟩:=List.mem_flatten.1 hu;obtain ⟨x,_,rfl⟩:=List.mem_map.1 hq;exact h1 x u hu
 ·intro a ha j u hj
  have UD:=(List.getElem?_eq_some_iff.1 hj).1;rw[lI hf] at UD;have hi:j/k<l.length:=Nat.div_lt_of_lt_mul (by rw[Nat.mul_comm];exact UD);obtain ⟨g,o,e,hc⟩:=h4 (j/k) _ (List.getElem?_eq_getElem hi);have hr:j%k<(f l[j/k]).length:=by rw[hf];exact Nat.mod_lt _ hk
  have hg:=eN hf l (j/k) _ (j%k) _ (List.getElem?_eq_getElem hi) (List.getElem?_eq_getElem hr);have hjj:j/k*k+j%k=j:=Nat.div_add_mod' j k;rw[hjj,hj] at hg;rw[ha] at e;cases e;rw[nA,← hjj,← Nat.add_assoc];exact hc _ _ (by rw[hg];exact List.getElem?_eq_getElem hr)
def bQ (l:List Bool):List Value:=l.map .bool
def dy (w:World) (v:Value) (l:List Bool):Prop:=∃p c,v=.slice p l.length c∧l.length≤c∧c≤maxLen∧(p=none→c=0)∧∀i x,l[i]?=some x→∃g o,p=some ⟨g,o,none⟩∧w.cell? ⟨g,o+i,none⟩=some (.bool x)
theorem dy.keep (h:dy w v l) (hk:dI w w'):dy w' v l:=by obtain ⟨p,c,h1,h2,h3,h5,h4⟩:=h;refine ⟨p,c,h1,h2,h3,h5,fun i x hx=>?_⟩;obtain ⟨g,o,h5,h6⟩:=h4 i x hx;exact ⟨g,o,h5,hk _ _ h6⟩
theorem iG (w:World):dy w (.slice none 0 0) []:=⟨none,0,rfl,aT,by unfold maxLen;omega,fun _=>rfl,fun i x hx=>by simp at hx⟩
theorem eD {e:TypeId} (hn:l.length=n) (h:w.ownsRow B e 1 v n (bQ l)):dy w v l:=by
 subst hn;rcases aJ h with ⟨hv,hn,_⟩|⟨g,cap,hv⟩
 ·exact ⟨none,0,by rw[hv,hn],by omega,by unfold maxLen;omega,fun _=>rfl,fun i x hx=>by rw[List.eq_nil_of_length_eq_zero hn] at hx;simp at hx⟩
 ·subst hv
  obtain ⟨_,_,_,h3,h4,_⟩:=bl h;refine ⟨_,cap,rfl,h3,h4,(fun e=>by cases e),fun i x hx=>⟨g,0,rfl,?_⟩⟩;have hi:=(List.getElem?_eq_some_iff.1 hx).1;have:=bG h i (by unfold bQ;rw[List.length_map];exact hi);rw[Nat.zero_add,this];unfold bQ;rw[List.getElem_map];obtain ⟨_,rfl⟩:=List.getElem?_eq_some_iff.1 hx;rfl
theorem dy.src (h:dy w v l):∃p c,v=.slice p l.length c∧(p=none→c=0)∧iK w p l.length 1 (bQ l):=by
 obtain ⟨p,c,e,h1,h2,h3,h4⟩:=h;refine ⟨p,c,e,h3,by unfold bQ;rw[List.length_map,Nat.mul_one],fun hp=>by have:=h3 hp;omega,?_,?_⟩
 ·intro u hu
  unfold bQ at hu;obtain ⟨x,_,rfl⟩:=List.mem_map.1 hu;rfl
 ·intro a ha j u hj
  unfold bQ at hj;rw[List.getElem?_map] at hj;cases hx:l[j]? with
  |none=>rw[hx] at hj;cases hj
  |some x=>rw[hx] at hj;obtain ⟨g,o,e,hc⟩:=h4 j x hx;rw[ha] at e;cases e;rw[nA];simp only[Option.map_some,Option.some.injEq] at hj;rw[← hj];exact hc
theorem qy:(prog.info? 4).map (fun i=>(i.zero,i.size,i.bytes))=some (some (.bool false),1,1):=by kernel_rfl
theorem qz (W:World) (B n:Nat) (v:Value) (l:List Bool) (x:Bool) (hown:W.ownsRow B 4 1 v n (bQ l)) (hn:n≤100000000) (hB:B≤W.heap.size) :
 ∃g cap w2,(Builtin.append_ #[24,24] 24 #[v,.slice (some ⟨W.heap.size,0,none⟩) 1 1]).run prog (W.alloc (.cells #[.bool x] 4))=.ok (.slice (some ⟨g,0,none⟩) (n+1) cap) w2∧ku W w2 B n 4 1 v (bQ l) [.bool x] g cap:=by
 obtain ⟨i0,iM,hz0,hz1,hz2⟩:=info_parts qy;exact eV 24 4 i0 _ 1 1 underlying24 iM hz0 hz1 hz2 rfl (by decide) (by decide) W B n v (bQ l) [.bool x] hown rfl (by intro u hu;simp only[List.mem_cons,List.not_mem_nil,or_false] at hu;subst hu;rfl) hn hB
theorem qA (l:List Bool) (x:Bool):bQ l++[.bool x]=bQ (l++[x]):=by unfold bQ;rw[List.map_append];rfl
theorem au {P:Program} {fn:Func} {R:Ending→World→Prop} {tmps:Array Value} (hR:R (.returned v) w) (hr:(results fn tmps).run P w=.ok v w):bodyPost P fn R .ret {tmps:=tmps,defers:=[]} w:=bodyPost_ret hr rfl hR
theorem ux {j:Nat} (h:j≤n) (h2:n≤1000000):wrap64 ((j:Int)+1)=(j:Int)+1:=by unfold wrap64;omega
theorem lx {j:Nat} {u:Value} {a:Addr} (h:W.cell? a=some u) (hne:a.block≠B):(W.setCell ⟨B,j,none⟩ v).cell? a=some u:=(av W B j v).cell h (fun e=>hne (by injection e))
def vH (w:World) (l:List ay) (e:Ending) (w':World):Prop:=∃t a b c,e=.returned (.agg #[a,b,c])∧Grown l t∧bn (mask (vG w.heap.size w') w') t a b c∧Bw w w'
theorem xm {lo np hi g c:Nat} (h1:lo+np=hi) (h2:hi≤g) (h3:g≤c) (h4:1≤np):hi-lo=np∧lo≤hi∧hi≤c∧¬c=lo∧(lo:Int)≤(hi:Int)∧(hi:Int)≤(c:Int)∧¬(lo:Int)<0∧(0:Int)≤(lo:Int)∧(0:Int)≤(hi:Int):=by omega
end Go.Proofs.YtbigkioechkngaaGreat
namespace Go.Proofs.YtbigkioechkngaaGreat
open Tryz
variable {s:List UInt8}{pos:Nat}
def bitsOf (n:Nat):Nat→List Bool
 |0=>[]
 |w+1=>(n/2 ^ w%2==1)::bitsOf n w
theorem eW (n:Nat):∀w,(bitsOf n w).length=w
 |0=>rfl
 |w+1=>by rw[bitsOf,List.length_cons,eW n w]
def vI (l:List Bool):Nat:=l.foldl (fun n b=>2*n+b.toNat) 0
theorem Ns (l:List Bool) (b:Bool):vI (l++[b])=2*vI l+b.toNat:=by unfold vI;rw[List.foldl_append];rfl
theorem L5:∀(l:List Bool) (n:Nat),l.foldl (fun n b=>2*n+b.toNat) n<(n+1)*2 ^ l.length
 |[],n=>by simp
 |b::l,n=>by
  have h:=L5 l (2*n+b.toNat);rw[List.foldl_cons,List.length_cons,Nat.pow_succ];have:(2*n+b.toNat+1)*2 ^ l.length≤(n+1)*(2 ^ l.length*2):=by rw[← Nat.mul_assoc,Nat.mul_right_comm];exact Nat.mul_le_mul_right _ (by cases b <;> simp <;> omega)
  omega
theorem L6 (l:List Bool):vI l<2 ^ l.length:=by have:=L5 l 0;unfold vI;omega
def sF (b:List Bool) (n width:Int):Option (List Bool):=if 0≤width∧width≤30∧0≤n∧n<2 ^ width.toNat then some (b++bitsOf n.toNat width.toNat) else none
def acN (b:List Bool):Nat:=vI ((b++List.replicate 8 false).take 8)
def tr:Nat→List Bool→List UInt8
 |0,_=>[]
 |n+1,b=>UInt8.ofNat (acN b)::tr n (b.drop 8)
def Gi (b:List Bool):List UInt8:=tr ((b.length+7)/8) b
structure jL where
 byte:Int
 yy:Int
 len:Int
deriving DecidableEq
def jR (t:jL):Bool:=if t.len=0∧t.yy=0 then decide (0≤t.byte∧t.byte≤255) else decide (t.byte=0∧1≤t.yy∧t.yy≤255∧3≤t.len∧t.len≤18)
def gm (s:List UInt8) (pos yy n:Nat):Bool:=decide (pos+n≤s.length∧yy≤pos)&&(List.range n).all fun i=>s[pos+i]?==s[pos+i-yy]?
def iR (s:List UInt8) (pos n:Nat):Nat→Nat→Option Nat
 |_,0=>none
 |d,m+1=>if gm s pos d n=true then some d else iR s pos n (d+1) m
def gV (s:List UInt8) (pos:Nat):Nat→Nat×Nat
 |0=>(0,0)
 |j+1=>match iR s pos (j+3) 1 255 with
  |some d=>(j+3,d)
  |none=>gV s pos j
def eF (s:List UInt8) (pos:Nat):Nat×Nat:=if pos<s.length then gV s pos 16 else (0,0)
theorem xq {s:List UInt8} {pos n:Nat}:∀(m d x:Nat),iR s pos n d m=some x→d≤x∧x<d+m∧gm s pos x n=true
 |0,d,x,h=>by simp[iR] at h
 |m+1,d,x,h=>by
  unfold iR at h
  split at h
  ·rename_i ha;cases h;exact ⟨aT,by omega,ha⟩
  ·obtain ⟨h1,h2,h3⟩:=xq m (d+1) x h;exact ⟨by omega,by omega,h3⟩
theorem Cz {s:List UInt8} {pos:Nat}:∀(j:Nat),j≤16→gV s pos j=(0,0)∨(3≤(gV s pos j).1∧(gV s pos j).1≤18∧1≤(gV s pos j).2∧(gV s pos j).2≤255∧gm s pos (gV s pos j).2 (gV s pos j).1=true)
 |0,_=>.inl rfl
 |j+1,h=>by
  unfold gV
  split
  ·rename_i d hd
   have:=xq 255 1 d hd;exact .inr ⟨by simp only;omega,by simp only;omega,this.1,by simp only;omega,this.2.2⟩
  ·exact Cz j (by omega)
theorem Gj (s:List UInt8) (pos:Nat):eF s pos=(0,0)∨(3≤(eF s pos).1∧(eF s pos).1≤18∧1≤(eF s pos).2∧(eF s pos).2≤255∧gm s pos (eF s pos).2 (eF s pos).1=true):=by
 unfold eF
 split
 ·exact Cz 16 aT
 ·exact .inl rfl
theorem Gk {d n:Nat} (h:gm s pos d n=true):pos+n≤s.length∧d≤pos:=by unfold gm at h;simp only[Bool.and_eq_true,decide_eq_true_eq] at h;exact h.1
def eG (s:List UInt8) (pos:Nat):List jL:=
 if h:pos<s.length then
  if hp:(eF s pos).1=0 then ⟨((s[pos]).toNat:Nat),0,0⟩::eG s (pos+1)
  else ⟨0,((eF s pos).2:Nat),((eF s pos).1:Nat)⟩::eG s (pos+(eF s pos).1)
 else []
termination_by s.length-pos
decreasing_by
 ·omega
 ·omega
theorem xu (h:pos<s.length) (hp:(eF s pos).1=0):eG s pos=⟨((s[pos]).toNat:Nat),0,0⟩::eG s (pos+1):=by rw[eG,dif_pos h,dif_pos hp]
theorem xw (h:pos<s.length) (hp:¬(eF s pos).1=0):eG s pos=⟨0,((eF s pos).2:Nat),((eF s pos).1:Nat)⟩::eG s (pos+(eF s pos).1):=by rw[eG,dif_pos h,dif_neg hp]
theorem tu (h:¬pos<s.length):eG s pos=[]:=by rw[eG,dif_neg h]
theorem vJ (s:List UInt8):∀(m pos:Nat),s.length-pos≤m→(eG s pos).length≤s.length-pos∧∀t∈eG s pos,jR t=true
 |0,pos,h=>by rw[tu (by omega)];exact ⟨dO,by simp⟩
 |m+1,pos,h=>by
  by_cases hl:pos<s.length
  ·by_cases hp:(eF s pos).1=0
   ·rw[xu hl hp]
    obtain ⟨h1,h2⟩:=vJ s m (pos+1) (by omega);refine ⟨by rw[List.length_cons];omega,fun t ht=>?_⟩;rcases List.mem_cons.1 ht with rfl|ht
    ·have:=(s[pos]).toNat_lt
     unfold jR;rw[if_pos ⟨rfl,rfl⟩];simp only[decide_eq_true_eq];omega
    ·exact h2 t ht
   ·rw[xw hl hp]
    rcases Gj s pos with e|⟨e1,e2,e3,e4,e5⟩
    ·rw[e] at hp;exact absurd rfl hp
    have:=Gk e5;obtain ⟨h1,h2⟩:=vJ s m (pos+(eF s pos).1) (by omega);refine ⟨by rw[List.length_cons];omega,fun t ht=>?_⟩;rcases List.mem_cons.1 ht with rfl|ht
    ·unfold jR
     rw[if_neg (by intro h;have:=h.1;simp only at this;omega)];refine decide_eq_true ⟨rfl,?_,?_,?_,?_⟩ <;> dsimp only <;> omega
    ·exact h2 t ht
  ·rw[tu hl];exact ⟨dO,by simp⟩
theorem qB {t:jL} (h:jR t=true):(t.len=0∧t.yy=0∧0≤t.byte∧t.byte≤255)∨(t.byte=0∧1≤t.yy∧t.yy≤255∧3≤t.len∧t.len≤18):=by
 unfold jR at h
 split at h <;> simp only[decide_eq_true_eq] at h
 ·rename_i e;exact .inl ⟨e.1,e.2,h⟩
 ·exact .inr h
end Go.Proofs.YtbigkioechkngaaGreat
namespace Go.Proofs.YtbigkioechkngaaGreat
open Go.RowKit Tryz
variable {a:Act}{ops:Array Oper}{Q:Exit→Act→World→Prop}{e:Int}{ks:List Int}{cs xs ys:List Value}{l:List ag}{B D b j k n:Nat}{F:Nat→Prop}{P:Program}{a0 a1 a2 a3 kv u v x y z:Value}{W W' w w':World}
abbrev aj:=Int×Int×Int×Bool
def U4 (g o:Nat) (a b c:Int) (d:Bool) (w:World):Prop:=w.cell? ⟨g,o,none⟩=some (.int .i64 a)∧w.cell? ⟨g,o+1,none⟩=some (.int .i64 b)∧w.cell? ⟨g,o+2,none⟩=some (.int .i64 c)∧w.cell? ⟨g,o+3,none⟩=some (.bool d)
theorem U4.keep {g o:Nat} {a b c:Int} {d:Bool} (h:U4 g o a b c d w) (hk:dI w w'):U4 g o a b c d w':=⟨hk _ _ h.1,hk _ _ h.2.1,hk _ _ h.2.2.1,hk _ _ h.2.2.2⟩
def dA (w:World) (v:Value) (l:List aj):Prop:=
 ∃p c,v=.slice p l.length c∧l.length≤c∧c≤maxLen∧∀i x,l[i]?=some x→∃g o,p=some ⟨g,o,none⟩∧U4 g (o+i*4) x.1 x.2.1 x.2.2.1 x.2.2.2 w
theorem dA.keep {l:List aj} (h:dA w v l) (hk:dI w w'):dA w' v l:=by obtain ⟨p,c,h1,h2,h3,h4⟩:=h;refine ⟨p,c,h1,h2,h3,fun i x hx=>?_⟩;obtain ⟨g,o,e1,e2⟩:=h4 i x hx;exact ⟨g,o,e1,e2.keep hk⟩
def dH (w:World) (v:Value) (l:List (List aj)):Prop:=
 ∃p c,v=.slice p l.length c∧l.length≤c∧c≤maxLen∧∀i x,l[i]?=some x→∃g o u,p=some ⟨g,o,none⟩∧w.cell? ⟨g,o+i,none⟩=some u∧dA w u x
theorem dH.keep {l:List (List aj)} (h:dH w v l) (hk:dI w w'):dH w' v l:=by obtain ⟨p,c,h1,h2,h3,h4⟩:=h;refine ⟨p,c,h1,h2,h3,fun i x hx=>?_⟩;obtain ⟨g,o,u,e1,e2,e3⟩:=h4 i x hx;exact ⟨g,o,u,e1,hk _ _ e2,e3.keep hk⟩
def fD (u:aj):Bool:=decide (1≤u.2.1∧u.2.1≤8∧0≤u.1∧u.1+u.2.1≤16∧0≤u.2.2.1∧u.2.2.1≤1000000∧(u.2.2.1=0→u.2.2.2=true))
def iq:Int→List aj→Bool
 |_,[]=>true
 |e,u::l=>fD u&&decide (e≤u.1)&&iq (u.1+u.2.1) l
def dE (l:List aj):Bool:=iq 0 l
def nY (a b:List aj):Bool:=decide (a=b)
theorem CA {l:List aj} {u:aj} (h:l[k]?=some u):iq e (l.drop k)=(fD u&&decide (e≤u.1)&&iq (u.1+u.2.1) (l.drop (k+1))):=by obtain ⟨hk,hx⟩:=List.getElem?_eq_some_iff.1 h;rw[List.drop_eq_getElem_cons hk,hx];rfl
theorem Gl {l:List aj} (h:l.length≤k):iq e (l.drop k)=true:=by rw[List.drop_of_length_le h];rfl
theorem zJ {l:List aj} {u:aj} (h:l[k]?=some u) (hb:¬(fD u=true∧e≤u.1)):iq e (l.drop k)=false:=by
 rw[CA h];rcases Bool.eq_false_or_eq_true (fD u) with h1|h1
 ·rw[h1];simp only[Bool.true_and,Bool.and_eq_false_iff,decide_eq_false_iff_not];left;intro h2;exact hb ⟨h1,h2⟩
 ·rw[h1];rfl
theorem Ee {l:List aj} {u:aj} (h:l[k]?=some u) (h1:fD u=true) (h2:e≤u.1):iq e (l.drop k)=iq (u.1+u.2.1) (l.drop (k+1)):=by rw[CA h,h1];simp[h2]
def cL (W:World) (B:Nat) (x y z:Value):Prop:=W.heap[B]?=some (.cells #[x,y,z] 73 (0,0))
theorem cL.lt (h:cL W B x y z):B<W.heap.size:=(Array.getElem?_eq_some_iff.1 h).1
theorem cL.cells (h:cL W B x y z):W.cell? ⟨B,0,none⟩=some x∧W.cell? ⟨B,1,none⟩=some y∧W.cell? ⟨B,2,none⟩=some z:=by simp[World.cell?,show W.heap[B]?=_ from h]
theorem cL.frozen (h:cL W B x y z) (j:Nat):W.frozen? ⟨B,j,none⟩=false:=by simp[World.frozen?,show W.heap[B]?=_ from h]
theorem cL.qw (v:Value) (h:cL W B x y z):cL (W.setCell ⟨B,0,none⟩ v) B v y z:=by obtain ⟨hlt,hk⟩:=Array.getElem?_eq_some_iff.1 h;show (W.heap.modify B _)[B]?=_;rw[Array.getElem?_eq_getElem (by rw[Array.size_modify];exact hlt),Array.getElem_modify_self,hk];rfl
theorem cL.zw (v:Value) (h:cL W B x y z):cL (W.setCell ⟨B,1,none⟩ v) B x v z:=by obtain ⟨hlt,hk⟩:=Array.getElem?_eq_some_iff.1 h;show (W.heap.modify B _)[B]?=_;rw[Array.getElem?_eq_getElem (by rw[Array.size_modify];exact hlt),Array.getElem_modify_self,hk];rfl
theorem cL.yt (v:Value) (h:cL W B x y z):cL (W.setCell ⟨B,2,none⟩ v) B x y v:=by obtain ⟨hlt,hk⟩:=Array.getElem?_eq_some_iff.1 h;show (W.heap.modify B _)[B]?=_;rw[Array.getElem?_eq_getElem (by rw[Array.size_modify];exact hlt),Array.getElem_modify_self,hk];rfl
theorem cL.new (W:World) (x y z:Value):cL (W.alloc (.cells #[x,y,z] 73)) W.heap.size x y z:=World.alloc_heap_new _ _
theorem cL.below (h:cL W B x y z) (hb:Bw W W'):cL W' B x y z:=(hb.block B h.lt).trans h
theorem cL.low (h:cL W B x y z) (hb:Below D W W') (hD:B<D):cL W' B x y z:=(hb.block B hD).trans h
theorem eO {e:TypeId} (h:W.ownsRow D e k v n xs) (hD:B<D):(W.setCell ⟨B,j,none⟩ u).ownsRow D e k v n xs:=
 h.kept (av W B j u) (.inr fun e=>by have:=(h.lt _ e).1;omega)
theorem rI (h:Below B W W'):Below B W (W'.setCell ⟨B,j,none⟩ u):=eM h j u
theorem qD (W:World) (B n:Nat) (v:Value) (l:List Int) (x:Int) (hown:W.ownsRow B 3 1 v n (bw l)) (hn:n≤1000000) (hB:B≤W.heap.size) :
 ∃g cap w2,(Builtin.append_ #[70,70] 70 #[v,.slice (some ⟨W.heap.size,0,none⟩) 1 1]).run prog (W.alloc (.cells #[.int .i64 x] 3))=.ok (.slice (some ⟨g,0,none⟩) (n+1) cap) w2 ∧
  w2.ownsRow B 3 1 (.slice (some ⟨g,0,none⟩) (n+1) cap) (n+1) (bw (l++[x]))∧Below B W w2∧zH W w2 v (.slice (some ⟨g,0,none⟩) (n+1) cap)∧∀a u,W.cell? a=some u→some a.block≠v.ownBlock→w2.cell? a=some u:=by
 obtain ⟨i0,iM,hz0,hz1,hz2⟩:=info_parts acf;obtain ⟨v',w',h1,h2,h3,_,h5⟩:=run_append_own_at (P:=prog) (W.alloc (.cells #[.int .i64 x] 3)) B 70 70 3 i0 (.int .i64 0) 1 8 underlying70 iM hz0 hz1 hz2 rfl (by decide) v n _ (hown.alloc _) ⟨W.heap.size,0,none⟩ 1 1 [.int .i64 x] rfl (by
  intro j u hu;rw[jM,World.cell?_alloc_at _ _ _ _ rfl];rcases j with _|j
  ·exact hu
  ·simp at hu) (by intro u hu;simp only[List.mem_cons,List.not_mem_nil,or_false] at hu;subst hu;rfl) (by unfold maxLen;omega) (by omega) (by simp;omega)
 obtain ⟨g,cap,rfl⟩:=ownsRow_succ h2;refine ⟨g,cap,w',h1,?_,lR aH hB hown h3,rE (fun B' e' k' u m ys h=>h.alloc _) h3 h5,fun a u hu hne=>h3.cell (ae (ar) hu) hne⟩;unfold bw at *;rw[List.map_append];exact h2
theorem Rn (x:Int) (zT:cL W B kv y z) (hk:W.ownsRow (B+1) 3 1 kv n (bw ks)) (hn:n≤1000000) :
 ∃g cap w2,(Builtin.append_ #[70,70] 70 #[kv,.slice (some ⟨W.heap.size,0,none⟩) 1 1]).run prog (W.alloc (.cells #[.int .i64 x] 3))=.ok (.slice (some ⟨g,0,none⟩) (n+1) cap) w2∧cL w2 B kv y z ∧
  cL (w2.setCell ⟨B,0,none⟩ (.slice (some ⟨g,0,none⟩) (n+1) cap)) B (.slice (some ⟨g,0,none⟩) (n+1) cap) y z ∧
  (w2.setCell ⟨B,0,none⟩ (.slice (some ⟨g,0,none⟩) (n+1) cap)).ownsRow (B+1) 3 1 (.slice (some ⟨g,0,none⟩) (n+1) cap) (n+1) (bw (ks++[x])) ∧
  Below B W (w2.setCell ⟨B,0,none⟩ (.slice (some ⟨g,0,none⟩) (n+1) cap)) ∧
  (∀(u:Value) (m:Nat) (ys:List Int),W.ownsRow (B+1) 3 1 u m (bw ys)→eo u kv→(w2.setCell ⟨B,0,none⟩ (.slice (some ⟨g,0,none⟩) (n+1) cap)).ownsRow (B+1) 3 1 u m (bw ys)∧eo u (.slice (some ⟨g,0,none⟩) (n+1) cap)∧eo (.slice (some ⟨g,0,none⟩) (n+1) cap) u) ∧
  (∀a u,W.cell? a=some u→some a.block≠kv.ownBlock→w2.cell? a=some u∧(a.block≠B→(w2.setCell ⟨B,0,none⟩ (.slice (some ⟨g,0,none⟩) (n+1) cap)).cell? a=some u)):=by
 obtain ⟨g,cap,w2,h1,h2,h3,h4,h5⟩:=qD W (B+1) n kv ks x hk hn zT.lt;have qE:=zT.low h3 (Nat.lt_succ_self _);exact ⟨g,cap,w2,h1,qE,qE.qw _,eO h2 (Nat.lt_succ_self _),rI (gS h3 (Nat.le_succ _)),fun u m ys hu ha=>⟨eO (h4 _ _ _ _ _ _ hu ha).1 (Nat.lt_succ_self _),(h4 _ _ _ _ _ _ hu ha).2⟩,fun a u hu hne=>⟨h5 a u hu hne,fun hB=>(av _ _ _ _).cell (h5 a u hu hne) (fun e=>hB (by injection e))⟩⟩
theorem Ro (x:Int) (zT:cL W B y kv z) (hk:W.ownsRow (B+1) 3 1 kv n (bw ks)) (hn:n≤1000000) :
 ∃g cap w2,(Builtin.append_ #[70,70] 70 #[kv,.slice (some ⟨W.heap.size,0,none⟩) 1 1]).run prog (W.alloc (.cells #[.int .i64 x] 3))=.ok (.slice (some ⟨g,0,none⟩) (n+1) cap) w2∧cL w2 B y kv z ∧
  cL (w2.setCell ⟨B,1,none⟩ (.slice (some ⟨g,0,none⟩) (n+1) cap)) B y (.slice (some ⟨g,0,none⟩) (n+1) cap) z ∧
  (w2.setCell ⟨B,1,none⟩ (.slice (some ⟨g,0,none⟩) (n+1) cap)).ownsRow (B+1) 3 1 (.slice (some ⟨g,0,none⟩) (n+1) cap) (n+1) (bw (ks++[x])) ∧
  Below B W (w2.setCell ⟨B,1,none⟩ (.slice (some ⟨g,0,none⟩) (n+1) cap)) ∧
  (∀(u:Value) (m:Nat) (ys:List Int),W.ownsRow (B+1) 3 1 u m (bw ys)→eo u kv→(w2.setCell ⟨B,1,none⟩ (.slice (some ⟨g,0,none⟩) (n+1) cap)).ownsRow (B+1) 3 1 u m (bw ys)∧eo u (.slice (some ⟨g,0,none⟩) (n+1) cap)∧eo (.slice (some ⟨g,0,none⟩) (n+1) cap) u) ∧
  (∀a u,W.cell? a=some u→some a.block≠kv.ownBlock→w2.cell? a=some u∧(a.block≠B→(w2.setCell ⟨B,1,none⟩ (.slice (some ⟨g,0,none⟩) (n+1) cap)).cell? a=some u)):=by
 obtain ⟨g,cap,w2,h1,h2,h3,h4,h5⟩:=qD W (B+1) n kv ks x hk hn zT.lt;have qE:=zT.low h3 (Nat.lt_succ_self _);exact ⟨g,cap,w2,h1,qE,qE.zw _,eO h2 (Nat.lt_succ_self _),rI (gS h3 (Nat.le_succ _)),fun u m ys hu ha=>⟨eO (h4 _ _ _ _ _ _ hu ha).1 (Nat.lt_succ_self _),(h4 _ _ _ _ _ _ hu ha).2⟩,fun a u hu hne=>⟨h5 a u hu hne,fun hB=>(av _ _ _ _).cell (h5 a u hu hne) (fun e=>hB (by injection e))⟩⟩
def Nx (r:Value×Value×Value):List Value:=[r.1,r.2.1,r.2.2]
def oQ (l:List (ag×(Value×Value×Value))):List Value:=(l.map fun x=>Nx x.2).flatten
theorem Gx (l:List (ag×(Value×Value×Value))) (x:ag×(Value×Value×Value)):oQ (l++[x])=oQ l++Nx x.2:=by unfold oQ;rw[List.map_append,List.flatten_append];simp
theorem Gy (l:List (ag×(Value×Value×Value))):∀(i:Nat) x,l[i]?=some x→∀j u,(Nx x.2)[j]?=some u→(oQ l)[i*3+j]?=some u:=by
 induction l with
 |nil=>intro i x h;simp at h
 |cons a l ih=>
  intro i x h j u hj;have e:oQ (a::l)=Nx a.2++oQ l:=by unfold oQ;simp
  have e5:(Nx a.2).length=3:=rfl;rw[e];cases i with
  |zero=>simp only[List.getElem?_cons_zero,Option.some.injEq] at h;subst h;have D7:=(List.getElem?_eq_some_iff.1 hj).1;rw[Nat.zero_mul,Nat.zero_add,List.getElem?_append_left D7];exact hj
  |succ i=>rw[List.getElem?_cons_succ] at h;rw[List.getElem?_append_right (by omega),e5,show (i+1)*3+j-3=i*3+j by omega];exact ih i x h j u hj
def gz (w:World) (B D:Nat) (v:Value) (l:List ag):Prop:=
 ∃xs:List (ag×(Value×Value×Value)),xs.map Prod.fst=l∧w.ownsRow D 73 3 v l.length (oQ xs)∧∀x∈xs,bn (mask (nX B v w) w) x.1 x.2.1 x.2.2.1 x.2.2.2
def Mb (B D:Nat) (W:World):Nat→Prop:=fun b=>vG B W b∧b<D
theorem gz.shape (h:gz w B D v l):∃p c,v=.slice p l.length c∧l.length≤c∧c≤maxLen∧∀k,v.ownBlock=some k→D≤k∧k<w.heap.size:=by
 obtain ⟨xs,rfl,hown,hx⟩:=h;rcases aJ hown with ⟨hv,hn,_⟩|⟨g,cap,hv⟩
 ·exact ⟨none,0,by rw[hv,hn],by omega,by unfold maxLen;omega,fun k hk=>hown.lt k hk⟩
 ·subst hv
  obtain ⟨cur,hA,hB,h3,h4,h5,_⟩:=bl hown;exact ⟨_,_,rfl,h3,h4,fun k hk=>hown.lt k hk⟩
theorem gz.Rp (h:gz w B D v l) (hn:l.length=n):∃p c,v=.slice p n c:=by obtain ⟨p,c,h1,_⟩:=h.shape;exact ⟨p,c,by rw[h1,hn]⟩
theorem gz.kid {p:Option Addr} {c:Nat} (h:gz w B D (.slice p n c) l) (hBD:B≤D):∀j t,l[j]?=some t→∃g,p=some ⟨g,0,none⟩∧pV (mask (vG B w) w) (some ⟨g,0,none⟩) j t:=by
 obtain ⟨xs,rfl,hown,hx⟩:=h;intro j t hj;rw[List.getElem?_map] at hj;cases u9:xs[j]? with
 |none=>rw[u9] at hj;simp at hj
 |some x=>
  rw[u9] at hj;simp only[Option.map_some,Option.some.injEq] at hj;subst hj;have hlt:=(List.getElem?_eq_some_iff.1 u9).1;rcases aJ hown with ⟨_,hn,_⟩|⟨g,cap,hv⟩
  ·rw[List.length_map] at hn;omega
  ·have hv':=hv
   injection hv' with e1 e2 e3;subst e1;subst e2;subst e3;obtain ⟨cur,hA,hB,h3,h4,h5,_⟩:=bl hown;have hF:vG B w g:=⟨by have:=(hown.lt g rfl).1;omega,cur,_,by first|exact hA|exact hB⟩
   have hc:∀i u,(Nx x.2)[i]?=some u→(mask (vG B w) w).cell? ⟨g,0+j*3+i,none⟩=some u:=fun i u hi=>aq.2 ⟨hF,by
    have h6:=Gy xs j x u9 i u hi;obtain ⟨h7,h8⟩:=List.getElem?_eq_some_iff.1 h6;rw[Nat.zero_add,bG hown (j*3+i) h7,h8]⟩
   exact ⟨g,rfl,g,0,x.2.1,x.2.2.1,x.2.2.2,rfl,hc 0 _ rfl,hc 1 _ rfl,hc 2 _ rfl,(hx x (List.mem_of_getElem? u9)).keep (bF fun _ _ hf hv=>⟨hf.1,hv⟩)⟩
theorem gz.below (h:gz w B D v l) (hb:Bw w w'):gz w' B D v l:=by obtain ⟨xs,h1,hown,hx⟩:=h;exact ⟨xs,h1,kp hown hb,fun x zE=>(hx x zE).keep (bF fun a u hf hu=>⟨⟨⟨hf.1.1,oO hf.1.2 hb⟩,hf.2⟩,ae hb hu⟩)⟩
theorem gz.mono {D':Nat} (h:D≤D') (ho:gz w B D' v l):gz w B D v l:=by obtain ⟨xs,h1,hown,hx⟩:=ho;exact ⟨xs,h1,bz h hown,hx⟩
theorem gz.block (h:gz w B D v l):∀k,v.ownBlock=some k→D≤k∧k<w.heap.size:=by obtain ⟨xs,h1,hown,hx⟩:=h;exact fun k hk=>hown.lt k hk
theorem CF (W:World) (B D n:Nat) (v:Value) (l:List ag) (t:ag) (a b c:Value) (hown:gz W B D v l) (hl:l.length=n) (hn:n≤1000000) (hD:D≤W.heap.size) (h3:bn (mask (nX B v W) W) t a b c) :
 ∃g cap w2,(Builtin.append_ #[71,71] 71 #[v,.slice (some ⟨W.heap.size,0,none⟩) 1 1]).run prog (W.alloc (.cells #[a,b,c] 73))=.ok (.slice (some ⟨g,0,none⟩) (n+1) cap) w2 ∧
  gz w2 B D (.slice (some ⟨g,0,none⟩) (n+1) cap) (l++[t])∧Below D W w2:=by
 obtain ⟨xs,hx0,hown,hx⟩:=hown;obtain ⟨pa,na,ca,pb,nb,cb,pc,nc,cc,rfl,rfl,rfl⟩:=aZ h3;rw[hl] at hown;obtain ⟨i0,iM,hz0,hz1,hz2⟩:=info_parts Qs;obtain ⟨v',w',r1,r2,r3,_,r5⟩:=run_append_own_at (P:=prog) (W.alloc (.cells #[.slice pa na ca,.slice pb nb cb,.slice pc nc cc] 73)) D 71 71 73 i0 _ 3 72 underlying71 iM hz0 hz1 hz2 rfl (by decide) v n _ (hown.alloc _) ⟨W.heap.size,0,none⟩ 1 1 [.slice pa na ca,.slice pb nb cb,.slice pc nc cc] rfl (by
  intro j u hu;rw[jM,World.cell?_alloc_at _ _ _ _ rfl];rcases j with _|_|_|j
  ·exact hu
  ·exact hu
  ·exact hu
  ·simp at hu) (by
  intro u hu;simp only[List.mem_cons,List.not_mem_nil,or_false] at hu;rcases hu with rfl|rfl|rfl <;> rfl) (by unfold maxLen;omega) (by omega) (by simp;omega)
 obtain ⟨g,cap,rfl⟩:=ownsRow_succ r2;have hk:dI (mask (nX B v W) W) (mask (nX B (.slice (some ⟨g,0,none⟩) (n+1) cap) w') w'):=bF fun a u hf hu=>by
  have hlt:=World.block_lt_of_cell? _ _ hu;have ha:Bw W (W.alloc (.cells #[.slice pa na ca,.slice pb nb cb,.slice pc nc cc] 73)):=ar;refine ⟨⟨⟨hf.1.1,?_⟩,fun e=>?_⟩,r3.cell (ae ha hu) hf.2⟩
  ·obtain ⟨c',t',hc'⟩:=oO hf.1.2 ha
   exact ⟨c',t',(r3.block a.block (Array.getElem?_eq_some_iff.1 hc').1 hf.2).trans hc'⟩
  rcases r5 with r5|r5
  ·rw[r5] at e;exact hf.2 e
  ·rw[r5] at e;injection e with e;simp at e;omega
 refine ⟨g,cap,w',r1,⟨xs++[(t,(.slice pa na ca,.slice pb nb cb,.slice pc nc cc))],by rw[List.map_append,hx0];rfl,?_,fun x zE=>?_⟩,lR aH hD hown r3⟩
 ·rw[List.length_append,hl,Gx];exact r2
 ·rw[List.mem_append,List.mem_singleton] at zE
  rcases zE with zE|rfl
  ·exact (hx x zE).keep hk
  ·exact h3.keep hk
theorem Mc {W0:World} (hb:Bw W0 W):dI (mask (vG B W0) W0) (mask (Mb B W0.heap.size W) W):=
 bF fun _ _ hf hu=>⟨⟨⟨hf.1,oO hf.2 hb⟩,World.block_lt_of_cell? _ _ hu⟩,ae hb hu⟩
theorem ac6 (hv:∀k,v.ownBlock=some k→D≤k):dI (mask (Mb B D W) W) (mask (nX B v W) W):=
 bF fun _ _ hf hu=>⟨⟨hf.1,fun e=>by have:=hv _ e.symm;have:=hf.2;omega⟩,hu⟩
theorem Gz {p:Option Addr} {t:ag} (h:pV w p j t) (hk:dI w w'):pV w' p j t:=by obtain ⟨g,o,x,y,z,e1,e2,e3,e4,e5⟩:=h;exact ⟨g,o,x,y,z,e1,hk _ _ e2,hk _ _ e3,hk _ _ e4,e5.keep hk⟩
theorem Md {t:ag} (h:bn w t x y z) (hk:1≤t.keys.length):∃g o n c,x=.slice (some ⟨g,o,none⟩) n c∧1≤n∧aQ (sD t)∧w.cell? ⟨g,o,none⟩=some (.int .i64 (sD t)):=by
 obtain ⟨⟨p,c,rfl,_,_,h1⟩,_⟩:=bA.1 h;have e:t.keys[0]?=some (sD t):=by
  unfold sD;cases hx:t.keys with
  |nil=>rw[hx] at hk;simp at hk
  |cons a l=>rfl
 obtain ⟨b,g,o,rfl,h3⟩:=h1 0 _ e;exact ⟨g,o,_,c,rfl,hk,b,by rw[Nat.add_zero] at h3;exact h3⟩
theorem Vn {B0:Nat} {vv:Value} {p:List ay} (hp:FQ p) (hk:W.ownsRow B 3 1 kv p.length (bw (p.map Prod.fst))) (hv:W.ownsRow B 3 1 vv p.length (bw (p.map Prod.snd))) (h0:B0≤B) (hr:∀k,v.ownBlock=some k→k<B) :
 bn (mask (nX B0 v W) W) (iN p) kv vv (.slice none 0 0):=by
 have gO:dI (mask (Yw B W) W) (mask (nX B0 v W) W):=bF fun a u hf hu=>⟨⟨⟨by have:=hf.1;omega,by obtain ⟨c,hc⟩:=hf.2;exact ⟨c,_,hc⟩⟩,fun e=>by have:=hr _ e.symm;have:=hf.1;omega⟩,hu⟩
 rw[bA];refine ⟨(qx (fun x hx=>?_) (by unfold iN ag.keys;simp only;rw[List.length_map];exact hk)).keep gO,(qx (fun x hx=>?_) (by unfold iN ag.vals;simp only;rw[List.length_map];exact hv)).keep gO,none,0,rfl,aT,by unfold maxLen;omega,fun j t hj=>by simp[iN,ag.kids] at hj⟩
 ·unfold iN ag.keys at hx;simp only at hx;rw[List.mem_map] at hx;obtain ⟨y,hy,rfl⟩:=hx;exact (hp y hy).1
 ·unfold iN ag.vals at hx;simp only at hx;rw[List.mem_map] at hx;obtain ⟨y,hy,rfl⟩:=hx;exact (hp y hy).2
theorem Vo {B0 Dc:Nat} {gr cr:Nat} {q:List ag} (_hq:1≤q.length) (hk:W.ownsRow B 3 1 kv q.length (bw (q.map sD))) (iL:∀t∈q,aQ (sD t)) (h0:B0≤B) (_hDB:D≤B) (hr:∀k,v.ownBlock=some k→D≤k∧k<Dc)
 (hDc:D≤Dc) (hBc:Dc≤B) (h0D:B0≤D) (hc:W.ownsRow Dc 73 3 (.slice (some ⟨gr,0,none⟩) q.length cr) q.length xs)
 (hx:∀j t,q[j]?=some t→∃x y z,xs[j*3]?=some x∧xs[j*3+1]?=some y∧xs[j*3+2]?=some z∧bn (mask (Mb B0 D W) W) t x y z) :
 bn (mask (nX B0 v W) W) (jB q) kv (.slice none 0 0) (.slice (some ⟨gr,0,none⟩) q.length cr):=by
 have gO:dI (mask (Yw B W) W) (mask (nX B0 v W) W):=bF fun a u hf hu=>⟨⟨⟨by have:=hf.1;omega,by obtain ⟨c,hc⟩:=hf.2;exact ⟨c,_,hc⟩⟩,fun e=>by have:=(hr _ e.symm).2;have:=hf.1;omega⟩,hu⟩
 obtain ⟨cur,h3,h2,h4,h5,h6,h7⟩:=bl hc;have hg:=(hc.lt gr rfl).1;rw[bA];refine ⟨(qx (fun x hx=>?_) (by unfold jB ag.keys;simp only;rw[List.length_map];exact hk)).keep gO,⟨none,0,rfl,aT,by unfold maxLen;omega,fun i x hx=>by simp[jB,ag.vals] at hx⟩,some ⟨gr,0,none⟩,cr,rfl,h4,h5,fun j t hj=>?_⟩
 ·unfold jB ag.keys at hx;simp only at hx;rw[List.mem_map] at hx;obtain ⟨y,hy,rfl⟩:=hx;exact iL y hy
 ·obtain ⟨x,y,z,e1,e2,e3,e4⟩:=hx j t hj
  have hF:nX B0 v W gr:=⟨⟨by omega,cur,_,h3⟩,fun e=>by have:=(hr _ e.symm).2;omega⟩
  have key:∀i u,xs[i]?=some u→(mask (nX B0 v W) W).cell? ⟨gr,i,none⟩=some u:=fun i u hu=>aq.2 ⟨hF,by
   obtain ⟨hi,hv⟩:=List.getElem?_eq_some_iff.1 hu;rw[bG hc i hi,hv]⟩
  exact ⟨gr,0,x,y,z,rfl,by rw[Nat.zero_add];exact key _ _ e1,by rw[Nat.zero_add];exact key _ _ e2,by rw[Nat.zero_add];exact key _ _ e3,e4.keep (ac6 fun k hk=>(hr k hk).1)⟩
theorem cP {B':Nat} {e e':TypeId} {k' n':Nat} (h:W.ownsRow B e k u n xs) (h':W.ownsRow B' e' k' v n' ys) (hne:e≠e'):eo u v:=by
 rcases h.2 with ⟨hu,_⟩|⟨g,cap,cur,hu,_,hg,_⟩
 ·left;rw[hu];rfl
 ·rcases h'.2 with ⟨hv,_⟩|⟨g',cap',cur',hv,_,hg',_⟩
  ·right;rw[hu,hv];simp[Value.ownBlock]
  ·right;rw[hu,hv]
   intro e;simp only[Value.ownBlock,Option.some.injEq] at e;subst e;rw[hg] at hg';injection hg' with hg';injection hg' with _ h2 _;exact hne h2
theorem Eh (W:World) (B n:Nat) (v:Value) (xs:List Value) {pa pb pc:Option Addr} {na ca nb cb nc cc:Nat} (hown:W.ownsRow B 73 3 v n xs) (hn:n≤1000000) (hB:B≤W.heap.size) :
 ∃g cap w2,(Builtin.append_ #[71,71] 71 #[v,.slice (some ⟨W.heap.size,0,none⟩) 1 1]).run prog (W.alloc (.cells #[.slice pa na ca,.slice pb nb cb,.slice pc nc cc] 73))=.ok (.slice (some ⟨g,0,none⟩) (n+1) cap) w2 ∧
  w2.ownsRow B 73 3 (.slice (some ⟨g,0,none⟩) (n+1) cap) (n+1) (xs++[.slice pa na ca,.slice pb nb cb,.slice pc nc cc])∧Below B W w2∧zH W w2 v (.slice (some ⟨g,0,none⟩) (n+1) cap):=by
 obtain ⟨i0,iM,hz0,hz1,hz2⟩:=info_parts Qs;obtain ⟨v',w',r1,r2,r3,_,r5⟩:=run_append_own_at (P:=prog) (W.alloc (.cells #[.slice pa na ca,.slice pb nb cb,.slice pc nc cc] 73)) B 71 71 73 i0 _ 3 72 underlying71 iM hz0 hz1 hz2 rfl (by decide) v n _ (hown.alloc _) ⟨W.heap.size,0,none⟩ 1 1 [.slice pa na ca,.slice pb nb cb,.slice pc nc cc] rfl (by
  intro j u hu;rw[jM,World.cell?_alloc_at _ _ _ _ rfl];rcases j with _|_|_|j
  ·exact hu
  ·exact hu
  ·exact hu
  ·simp at hu) (by
  intro u hu;simp only[List.mem_cons,List.not_mem_nil,or_false] at hu;rcases hu with rfl|rfl|rfl <;> rfl) (by unfold maxLen;omega) (by omega) (by simp;omega)
 obtain ⟨g,cap,rfl⟩:=ownsRow_succ r2;exact ⟨g,cap,w',r1,r2,lR aH hB hown r3,rE (fun B' e' k' u m ys h=>h.alloc _) r3 r5⟩
theorem Ny {cv:Value} {m:Nat} (x:Int) (zT:cL W B kv y cv) (hk:W.ownsRow (B+1) 3 1 kv n (bw ks)) (hc:W.ownsRow (B+1) 73 3 cv m ys) (hn:n≤1000000) :
 ∃g cap w2,(Builtin.append_ #[70,70] 70 #[kv,.slice (some ⟨W.heap.size,0,none⟩) 1 1]).run prog (W.alloc (.cells #[.int .i64 x] 3))=.ok (.slice (some ⟨g,0,none⟩) (n+1) cap) w2∧cL w2 B kv y cv ∧
  cL (w2.setCell ⟨B,0,none⟩ (.slice (some ⟨g,0,none⟩) (n+1) cap)) B (.slice (some ⟨g,0,none⟩) (n+1) cap) y cv ∧
  (w2.setCell ⟨B,0,none⟩ (.slice (some ⟨g,0,none⟩) (n+1) cap)).ownsRow (B+1) 3 1 (.slice (some ⟨g,0,none⟩) (n+1) cap) (n+1) (bw (ks++[x])) ∧
  (w2.setCell ⟨B,0,none⟩ (.slice (some ⟨g,0,none⟩) (n+1) cap)).ownsRow (B+1) 73 3 cv m ys ∧
  Below B W (w2.setCell ⟨B,0,none⟩ (.slice (some ⟨g,0,none⟩) (n+1) cap)) ∧
  (∀a u,W.cell? a=some u→some a.block≠kv.ownBlock→a.block≠B→(w2.setCell ⟨B,0,none⟩ (.slice (some ⟨g,0,none⟩) (n+1) cap)).cell? a=some u):=by
 obtain ⟨g,cap,w2,h1,h2,h3,h4,h5⟩:=qD W (B+1) n kv ks x hk hn zT.lt;have qE:=zT.low h3 (Nat.lt_succ_self _);exact ⟨g,cap,w2,h1,qE,qE.qw _,eO h2 (Nat.lt_succ_self _),eO (h4 _ _ _ _ _ _ hc (cP hc hk (by decide))).1 (Nat.lt_succ_self _),rI (gS h3 (Nat.le_succ _)),fun a u hu hne hB=>(av _ _ _ _).cell (h5 a u hu hne) (fun e=>hB (by injection e))⟩
theorem Rq {m:Nat} {cv:Value} {pa pb pc:Option Addr} {na ca nb cb nc cc:Nat} (zT:cL W B kv y cv) (hk:W.ownsRow (B+1) 3 1 kv m (bw ks)) (hc:W.ownsRow (B+1) 73 3 cv n ys) (hn:n≤1000000) :
 ∃g cap w2,(Builtin.append_ #[71,71] 71 #[cv,.slice (some ⟨W.heap.size,0,none⟩) 1 1]).run prog (W.alloc (.cells #[.slice pa na ca,.slice pb nb cb,.slice pc nc cc] 73))=.ok (.slice (some ⟨g,0,none⟩) (n+1) cap) w2∧cL w2 B kv y cv ∧
  cL (w2.setCell ⟨B,2,none⟩ (.slice (some ⟨g,0,none⟩) (n+1) cap)) B kv y (.slice (some ⟨g,0,none⟩) (n+1) cap) ∧
  (w2.setCell ⟨B,2,none⟩ (.slice (some ⟨g,0,none⟩) (n+1) cap)).ownsRow (B+1) 73 3 (.slice (some ⟨g,0,none⟩) (n+1) cap) (n+1) (ys++[.slice pa na ca,.slice pb nb cb,.slice pc nc cc]) ∧
  (w2.setCell ⟨B,2,none⟩ (.slice (some ⟨g,0,none⟩) (n+1) cap)).ownsRow (B+1) 3 1 kv m (bw ks) ∧
  Below B W (w2.setCell ⟨B,2,none⟩ (.slice (some ⟨g,0,none⟩) (n+1) cap)):=by
 obtain ⟨g,cap,w2,h1,h2,h3,h4⟩:=Eh W (B+1) n cv ys (pa:=pa) (pb:=pb) (pc:=pc) (na:=na) (ca:=ca) (nb:=nb) (cb:=cb) (nc:=nc) (cc:=cc) hc hn zT.lt;have qE:=zT.low h3 (Nat.lt_succ_self _);exact ⟨g,cap,w2,h1,qE,qE.yt _,eO h2 (Nat.lt_succ_self _),eO (h4 _ _ _ _ _ _ hk (cP hk hc (by decide))).1 (Nat.lt_succ_self _),rI (gS h3 (Nat.le_succ _))⟩
theorem ac7 (h1:xs[j*3]?=some x) (h2:xs[j*3+1]?=some y) (h3:xs[j*3+2]?=some z):xs.take ((j+1)*3)=xs.take (j*3)++[x,y,z]:=by rw[show (j+1)*3=j*3+3 by omega,List.take_add];congr 1;obtain ⟨l1,rfl⟩:=List.getElem?_eq_some_iff.1 h1;obtain ⟨l2,rfl⟩:=List.getElem?_eq_some_iff.1 h2;obtain ⟨l3,rfl⟩:=List.getElem?_eq_some_iff.1 h3;rw[List.drop_eq_getElem_cons l1,List.drop_eq_getElem_cons l2,List.drop_eq_getElem_cons l3];rfl
def aK (W:World) (b:Nat) (cs:List Value):Prop:=∃T,W.heap[b]?=some (.cells cs.toArray T (0,0))
theorem aK.lt (h:aK W b cs):b<W.heap.size:=by obtain ⟨T,h⟩:=h;exact (Array.getElem?_eq_some_iff.1 h).1
theorem aK.cell (h:aK W b cs) (hj:cs[j]?=some u):W.cell? ⟨b,j,none⟩=some u:=by
 obtain ⟨T,h⟩:=h;simp only[World.cell?,h]
 simpa using hj
theorem aK.free (h:aK W b cs) (j:Nat):W.frozen? ⟨b,j,none⟩=false:=by obtain ⟨T,h⟩:=h;simp only[World.frozen?,h];simp
theorem aK.R4 (h:aK W b cs):W.frozen? ⟨b,0,none⟩=false∧W.frozen? ⟨b,1,none⟩=false∧W.frozen? ⟨b,2,none⟩=false:=⟨h.free 0,h.free 1,h.free 2⟩
theorem aK.Y1 (h:aK W b cs):W.frozen? ⟨b,0,none⟩=false∧W.frozen? ⟨b,1,none⟩=false∧W.frozen? ⟨b,2,none⟩=false∧W.frozen? ⟨b,3,none⟩=false:=⟨h.free 0,h.free 1,h.free 2,h.free 3⟩
theorem aK.gJ (h:aK W b cs):W.frozen? ⟨b,0,none⟩=false∧W.frozen? ⟨b,1,none⟩=false∧W.frozen? ⟨b,2,none⟩=false∧W.frozen? ⟨b,3,none⟩=false∧W.frozen? ⟨b,4,none⟩=false:=⟨h.free 0,h.free 1,h.free 2,h.free 3,h.free 4⟩
theorem aK.eP (h:aK W b cs):W.frozen? ⟨b,0,none⟩=false∧W.frozen? ⟨b,1,none⟩=false∧W.frozen? ⟨b,2,none⟩=false∧W.frozen? ⟨b,3,none⟩=false∧W.frozen? ⟨b,4,none⟩=false∧W.frozen? ⟨b,5,none⟩=false∧W.frozen? ⟨b,6,none⟩=false∧W.frozen? ⟨b,7,none⟩=false∧W.frozen? ⟨b,8,none⟩=false∧W.frozen? ⟨b,9,none⟩=false:=⟨h.free 0,h.free 1,h.free 2,h.free 3,h.free 4,h.free 5,h.free 6,h.free 7,h.free 8,h.free 9⟩
theorem aK.below (h:aK W b cs) (hb:Below W.heap.size W W'):aK W' b cs:=by have hl:=h.lt;obtain ⟨T,h⟩:=h;exact ⟨T,(hb.block b hl).trans h⟩
theorem aK.grown {row:Option Nat} (h:aK W b cs) (hg:W.grownBy W' row) (hr:some b≠row):aK W' b cs:=by have hl:=h.lt;obtain ⟨T,h⟩:=h;exact ⟨T,(hg.block b hl hr).trans h⟩
theorem aK.set (h:aK W b cs) (j:Nat) (u:Value):aK (W.setCell ⟨b,j,none⟩ u) b (cs.set j u):=by obtain ⟨T,h⟩:=h;exact ⟨T,by rw[heap_setCell_same W b j _ T u h,List.setIfInBounds_toArray]⟩
theorem aK.far {b':Nat} (h:aK W b cs) (hne:b'≠b) (j:Nat) (u:Value):aK (W.setCell ⟨b',j,none⟩ u) b cs:=by obtain ⟨T,h⟩:=h;exact ⟨T,by rw[heap_setCell_other W ⟨b',j,none⟩ b u (fun e=>hne e.symm)];exact h⟩
theorem aK.new (W:World) (cs:List Value) (T:TypeId):aK (W.alloc (.cells cs.toArray T)) W.heap.size cs:=⟨T,World.alloc_heap_new W _⟩
theorem aK.alloc (h:aK W b cs) (o:Obj):aK (W.alloc o) b cs:=h.below ((Below.refl _ _).alloc (Nat.le_refl _) _)
theorem aK.drew (h:aK W b cs):aK W.drew b cs:=h.below (Below.refl _ _).drew
theorem aK.one (h:aK W b [a0]):W.cell? ⟨b,0,none⟩=some a0:=h.cell rfl
theorem aK.two (h:aK W b [a0,a1]):W.cell? ⟨b,0,none⟩=some a0∧W.cell? ⟨b,1,none⟩=some a1:=⟨h.cell rfl,h.cell rfl⟩
theorem aK.four (h:aK W b [a0,a1,a2,a3]):W.cell? ⟨b,0,none⟩=some a0∧W.cell? ⟨b,1,none⟩=some a1∧W.cell? ⟨b,2,none⟩=some a2∧W.cell? ⟨b,3,none⟩=some a3:=⟨h.cell rfl,h.cell rfl,h.cell rfl,h.cell rfl⟩
theorem aK.five {a4:Value} (h:aK W b [a0,a1,a2,a3,a4]):W.cell? ⟨b,0,none⟩=some a0∧W.cell? ⟨b,1,none⟩=some a1∧W.cell? ⟨b,2,none⟩=some a2∧W.cell? ⟨b,3,none⟩=some a3∧W.cell? ⟨b,4,none⟩=some a4:=⟨h.cell rfl,h.cell rfl,h.cell rfl,h.cell rfl,h.cell rfl⟩
theorem aK.ten {a4 a5 a6 a7 a8 a9:Value} (h:aK W b [a0,a1,a2,a3,a4,a5,a6,a7,a8,a9]):W.cell? ⟨b,0,none⟩=some a0∧W.cell? ⟨b,1,none⟩=some a1∧W.cell? ⟨b,2,none⟩=some a2∧W.cell? ⟨b,3,none⟩=some a3∧W.cell? ⟨b,4,none⟩=some a4∧W.cell? ⟨b,5,none⟩=some a5∧W.cell? ⟨b,6,none⟩=some a6∧W.cell? ⟨b,7,none⟩=some a7∧W.cell? ⟨b,8,none⟩=some a8∧W.cell? ⟨b,9,none⟩=some a9:=⟨h.cell rfl,h.cell rfl,h.cell rfl,h.cell rfl,h.cell rfl,h.cell rfl,h.cell rfl,h.cell rfl,h.cell rfl,h.cell rfl⟩
theorem aK.mP {x0 x1 x2 x3 x4:Value} (h:aK W b (x0::x1::x2::x3::x4::cs)) (y0 y1 y2 y3 y4:Value):aK (((((W.setCell ⟨b,0,none⟩ y0).setCell ⟨b,1,none⟩ y1).setCell ⟨b,2,none⟩ y2).setCell ⟨b,3,none⟩ y3).setCell ⟨b,4,none⟩ y4) b (y0::y1::y2::y3::y4::cs):=((((h.set 0 y0).set 1 y1).set 2 y2).set 3 y3).set 4 y4
theorem aK.yG {b':Nat} (h:aK W b cs) (hne:b'≠b) (y0 y1 y2 y3 y4:Value):aK (((((W.setCell ⟨b',0,none⟩ y0).setCell ⟨b',1,none⟩ y1).setCell ⟨b',2,none⟩ y2).setCell ⟨b',3,none⟩ y3).setCell ⟨b',4,none⟩ y4) b cs:=((((h.far hne 0 y0).far hne 1 y1).far hne 2 y2).far hne 3 y3).far hne 4 y4
def cQ (W:World) (b:Nat) (y0 y1 y2 y3 y4 y5 y6 y7 y8 y9:Value):World:=(((((((((W.setCell ⟨b,0,none⟩ y0).setCell ⟨b,1,none⟩ y1).setCell ⟨b,2,none⟩ y2).setCell ⟨b,3,none⟩ y3).setCell ⟨b,4,none⟩ y4).setCell ⟨b,5,none⟩ y5).setCell ⟨b,6,none⟩ y6).setCell ⟨b,7,none⟩ y7).setCell ⟨b,8,none⟩ y8).setCell ⟨b,9,none⟩ y9
theorem aK.cQ {W:World} {b:Nat} {x0 x1 x2 x3 x4 x5 x6 x7 x8 x9:Value} (h:aK W b [x0,x1,x2,x3,x4,x5,x6,x7,x8,x9]) (y0 y1 y2 y3 y4 y5 y6 y7 y8 y9:Value):aK (cQ W b y0 y1 y2 y3 y4 y5 y6 y7 y8 y9) b [y0,y1,y2,y3,y4,y5,y6,y7,y8,y9]:=(((((((((h.set 0 y0).set 1 y1).set 2 y2).set 3 y3).set 4 y4).set 5 y5).set 6 y6).set 7 y7).set 8 y8).set 9 y9
theorem dZ (h:Below B w W) (hb:B≤b) (y0 y1 y2 y3 y4 y5 y6 y7 y8 y9:Value):Below B w (cQ W b y0 y1 y2 y3 y4 y5 y6 y7 y8 y9):=(((((((((h.setCell (p:=⟨b,0,none⟩) hb y0).setCell (p:=⟨b,1,none⟩) hb y1).setCell (p:=⟨b,2,none⟩) hb y2).setCell (p:=⟨b,3,none⟩) hb y3).setCell (p:=⟨b,4,none⟩) hb y4).setCell (p:=⟨b,5,none⟩) hb y5).setCell (p:=⟨b,6,none⟩) hb y6).setCell (p:=⟨b,7,none⟩) hb y7).setCell (p:=⟨b,8,none⟩) hb y8).setCell (p:=⟨b,9,none⟩) hb y9
theorem cR (h:Below B w W) (hb:B≤b) (y0 y1 y2 y3 y4:Value):Below B w (((((W.setCell ⟨b,0,none⟩ y0).setCell ⟨b,1,none⟩ y1).setCell ⟨b,2,none⟩ y2).setCell ⟨b,3,none⟩ y3).setCell ⟨b,4,none⟩ y4):=((((h.setCell (p:=⟨b,0,none⟩) hb y0).setCell (p:=⟨b,1,none⟩) hb y1).setCell (p:=⟨b,2,none⟩) hb y2).setCell (p:=⟨b,3,none⟩) hb y3).setCell (p:=⟨b,4,none⟩) hb y4
theorem yH (w:World) (c1 c2:List Value) (T1 T2:TypeId):aK ((w.alloc (.cells c1.toArray T1)).alloc (.cells c2.toArray T2)) w.heap.size c1∧aK ((w.alloc (.cells c1.toArray T1)).alloc (.cells c2.toArray T2)) (w.heap.size+1) c2∧Below w.heap.size w ((w.alloc (.cells c1.toArray T1)).alloc (.cells c2.toArray T2)):=by refine ⟨(aK.new w c1 T1).alloc _,?_,((Below.refl _ _).alloc (Nat.le_refl _) _).alloc (by simp) _⟩;have:=aK.new (w.alloc (.cells c1.toArray T1)) c2 T2;rw[World.size_alloc] at this;exact this
theorem NW (w:World) (c1 c2 c3:List Value) (T1 T2 T3:TypeId):aK (((w.alloc (.cells c1.toArray T1)).alloc (.cells c2.toArray T2)).alloc (.cells c3.toArray T3)) w.heap.size c1∧aK (((w.alloc (.cells c1.toArray T1)).alloc (.cells c2.toArray T2)).alloc (.cells c3.toArray T3)) (w.heap.size+1) c2∧aK (((w.alloc (.cells c1.toArray T1)).alloc (.cells c2.toArray T2)).alloc (.cells c3.toArray T3)) (w.heap.size+1+1) c3∧Below w.heap.size w (((w.alloc (.cells c1.toArray T1)).alloc (.cells c2.toArray T2)).alloc (.cells c3.toArray T3)):=by obtain ⟨h1,h2,h3⟩:=yH w c1 c2 T1 T2;refine ⟨h1.alloc _,h2.alloc _,?_,h3.alloc (by simp;omega) _⟩;have:=aK.new ((w.alloc (.cells c1.toArray T1)).alloc (.cells c2.toArray T2)) c3 T3;rw[World.size_alloc,World.size_alloc] at this;exact this
theorem ajt (w:World) (c1 c2 c3 c4 c5:List Value) (T1 T2 T3 T4 T5:TypeId):aK (((((w.alloc (.cells c1.toArray T1)).alloc (.cells c2.toArray T2)).alloc (.cells c3.toArray T3)).alloc (.cells c4.toArray T4)).alloc (.cells c5.toArray T5)) w.heap.size c1∧aK (((((w.alloc (.cells c1.toArray T1)).alloc (.cells c2.toArray T2)).alloc (.cells c3.toArray T3)).alloc (.cells c4.toArray T4)).alloc (.cells c5.toArray T5)) (w.heap.size+1) c2∧aK (((((w.alloc (.cells c1.toArray T1)).alloc (.cells c2.toArray T2)).alloc (.cells c3.toArray T3)).alloc (.cells c4.toArray T4)).alloc (.cells c5.toArray T5)) (w.heap.size+1+1) c3∧aK (((((w.alloc (.cells c1.toArray T1)).alloc (.cells c2.toArray T2)).alloc (.cells c3.toArray T3)).alloc (.cells c4.toArray T4)).alloc (.cells c5.toArray T5)) (w.heap.size+1+1+1) c4∧aK (((((w.alloc (.cells c1.toArray T1)).alloc (.cells c2.toArray T2)).alloc (.cells c3.toArray T3)).alloc (.cells c4.toArray T4)).alloc (.cells c5.toArray T5)) (w.heap.size+1+1+1+1) c5∧Below w.heap.size w (((((w.alloc (.cells c1.toArray T1)).alloc (.cells c2.toArray T2)).alloc (.cells c3.toArray T3)).alloc (.cells c4.toArray T4)).alloc (.cells c5.toArray T5)):=by obtain ⟨h1,h2,h3,h4⟩:=NW w c1 c2 c3 T1 T2 T3;obtain ⟨k1,k2,k3⟩:=yH (((w.alloc (.cells c1.toArray T1)).alloc (.cells c2.toArray T2)).alloc (.cells c3.toArray T3)) c4 c5 T4 T5;rw[World.size_alloc,World.size_alloc,World.size_alloc] at k1 k2;exact ⟨(h1.alloc _).alloc _,(h2.alloc _).alloc _,(h3.alloc _).alloc _,k1,k2,(h4.alloc (by simp;omega) _).alloc (by simp;omega) _⟩
theorem rO (hb:Bw w W) (hv:∀k,v.ownBlock=some k→w.heap.size≤k):dI (mask F w) (mask (fun b=>F b∧some b≠v.ownBlock) W):=bF fun a u hf hu=>by have hl:=World.block_lt_of_cell? _ _ hu;exact ⟨⟨hf,fun e=>by have:=hv _ e.symm;omega⟩,ae hb hu⟩
def di (F:Nat→Prop) (w:World) (B:Nat) (v:Value) (l:List dx):Prop:=
 ∃xs:List (dx×(Value×Value×Value)),xs.map Prod.fst=l∧w.ownsRow B 75 5 v l.length (fO xs)∧∀x∈xs,aQ x.1.id∧aQ x.1.size∧bn (mask (fun b=>F b∧some b≠v.ownBlock) w) x.1.map x.2.1 x.2.2.1 x.2.2.2
theorem di.at {F:Nat→Prop} {w:World} {B:Nat} {v:Value} {l:List dx} (h:di F w B v l) (hF:∀q,B≤q→F q):eQ (mask F w) v l:=by
 obtain ⟨xs,rfl,hown,hx⟩:=h;rw[List.length_map] at hown;rcases aJ hown with ⟨hv,hn,_⟩|⟨g,cap,hv⟩
 ·exact ⟨none,0,by rw[hv,List.length_map,hn],by rw[List.length_map];omega,by unfold maxLen;omega,fun i x hx=>by rw[List.eq_nil_of_length_eq_zero hn] at hx;simp at hx⟩
 ·subst hv
  obtain ⟨_,_,_,h3,h4,_⟩:=bl hown;refine ⟨_,cap,by rw[List.length_map],by rw[List.length_map];exact h3,h4,fun i d hd=>?_⟩;rw[List.getElem?_map] at hd;cases u9:xs[i]? with
  |none=>rw[u9] at hd;simp at hd
  |some x=>
   rw[u9] at hd;simp only[Option.map_some,Option.some.injEq] at hd;subst hd;obtain ⟨i1,i2,i3⟩:=hx x (List.mem_of_getElem? u9);have hl:=mS xs;have hi:=(List.getElem?_eq_some_iff.1 u9).1;have hc:∀j u,(qu x.1 x.2)[j]?=some u→(mask F w).cell? ⟨g,0+i*5+j,none⟩=some u:=fun j u hj=>by have h5:j<5:=(List.getElem?_eq_some_iff.1 hj).1;have h6:=lq xs i x u9 j u hj;obtain ⟨h7,h8⟩:=List.getElem?_eq_some_iff.1 h6;refine aq.2 ⟨hF _ (hown.lt g rfl).1,?_⟩;rw[Nat.zero_add,bG hown (i*5+j) h7,h8]
   exact ⟨i1,i2,g,0,x.2.1,x.2.2.1,x.2.2.2,rfl,hc 0 _ rfl,hc 1 _ rfl,hc 2 _ rfl,hc 3 _ rfl,hc 4 _ rfl,i3.keep (bF fun a u hf hu=>⟨hf.1,hu⟩)⟩
theorem di.below {l:List dx} (h:di F w B v l) (hb:Bw w w'):di F w' B v l:=by obtain ⟨xs,h1,hown,hx⟩:=h;refine ⟨xs,h1,kp hown hb,fun x zE=>?_⟩;obtain ⟨i1,i2,i3⟩:=hx x zE;exact ⟨i1,i2,i3.keep (bF fun a u hf hu=>⟨hf,ae hb hu⟩)⟩
theorem di.nil (hB:B≤w.heap.size):di F (w.alloc (.cells #[] 75)) B (.slice (some ⟨w.heap.size,0,none⟩) 0 0) []:=by
 refine ⟨[],rfl,?_,fun x h=>by simp at h⟩;have:=World.ownsRow_made w #[] 0 (base:=B) (e:=75) (size:=5) hB (by unfold maxLen;omega) rfl
 simpa [fO] using this
theorem di.none {F:Nat→Prop} {w:World} {B:Nat}:di F w B (.slice none 0 0) []:=⟨[],rfl,World.ownsRow_nil w B _ _,fun x h=>by simp at h⟩
theorem mY (W:World) (B n:Nat) (v:Value) (l:List dx) (d:dx) (a b c:Value) (hown:di F W B v l) (hl:l.length=n) (hn:n≤1000000) (hB:B≤W.heap.size) (h1:aQ d.id) (h2:aQ d.size) (h3:bn (mask (fun b=>F b∧some b≠v.ownBlock) W) d.map a b c) :
 ∃g cap w2,(Builtin.append_ #[27,27] 27 #[v,.slice (some ⟨W.heap.size,0,none⟩) 1 1]).run prog (W.alloc (.cells #[.int .i64 d.id,.int .i64 d.size,a,b,c] 75))=.ok (.slice (some ⟨g,0,none⟩) (n+1) cap) w2 ∧
  di F w2 B (.slice (some ⟨g,0,none⟩) (n+1) cap) (l++[d])∧Below B W w2:=by
 obtain ⟨xs,hx0,hown,hx⟩:=hown;obtain ⟨pa,na,ca,pb,nb,cb,pc,nc,cc,rfl,rfl,rfl⟩:=aZ h3;rw[hl] at hown;obtain ⟨i0,iM,hz0,hz1,hz2⟩:=info_parts QJ;obtain ⟨v',w',r1,r2,r3,_,r5⟩:=run_append_own_at (P:=prog) (W.alloc (.cells #[.int .i64 d.id,.int .i64 d.size,.slice pa na ca,.slice pb nb cb,.slice pc nc cc] 75)) B 27 27 75 i0 _ 5 88 underlying27 iM hz0 hz1 hz2 rfl (by decide) v n _ (hown.alloc _) ⟨W.heap.size,0,none⟩ 1 1 [.int .i64 d.id,.int .i64 d.size,.slice pa na ca,.slice pb nb cb,.slice pc nc cc] rfl (by
  intro j u hu;rw[jM,World.cell?_alloc_at _ _ _ _ rfl];rcases j with _|_|_|_|_|j
  ·exact hu
  ·exact hu
  ·exact hu
  ·exact hu
  ·exact hu
  ·simp at hu) (by
  intro u hu;simp only[List.mem_cons,List.not_mem_nil,or_false] at hu;rcases hu with rfl|rfl|rfl|rfl|rfl <;> rfl) (by unfold maxLen;omega) (by omega) (by simp;omega)
 obtain ⟨g,cap,rfl⟩:=ownsRow_succ r2;have hk:dI (mask (fun b=>F b∧some b≠v.ownBlock) W) (mask (fun b=>F b∧some b≠(Value.slice (some ⟨g,0,none⟩) (n+1) cap).ownBlock) w'):=bF fun a u hf hu=>by
  have hlt:=World.block_lt_of_cell? _ _ hu;refine ⟨⟨hf.1,fun e=>?_⟩,r3.cell (ae (ar) hu) hf.2⟩;rcases r5 with r5|r5
  ·rw[r5] at e;exact hf.2 e
  ·rw[r5] at e;injection e with e;simp at e;omega
 refine ⟨g,cap,w',r1,⟨xs++[(d,(.slice pa na ca,.slice pb nb cb,.slice pc nc cc))],by rw[List.map_append,hx0];rfl,?_,fun x zE=>?_⟩,lR aH hB hown r3⟩
 ·rw[List.length_append,hl,ur];exact r2
 ·rw[List.mem_append,List.mem_singleton] at zE
  rcases zE with zE|rfl
  ·obtain ⟨i1,i2,i3⟩:=hx x zE
   exact ⟨i1,i2,i3.keep hk⟩
  ·exact ⟨h1,h2,h3.keep hk⟩
theorem di.block {l:List dx} (h:di F w B v l):∀k,v.ownBlock=some k→B≤k:=fun k hk=>by obtain ⟨xs,_,hown,_⟩:=h;exact (hown.lt k hk).1
theorem di.mono {B':Nat} {l:List dx} (h:di F w B v l) (hb:B'≤B):di F w B' v l:=by obtain ⟨xs,h1,hown,hx⟩:=h;exact ⟨xs,h1,bz hb hown,hx⟩
theorem di.aw {l:List dx} (h:di F w B v l):eQ w v l:=by obtain ⟨xs,h1,hown,hx⟩:=h;exact D8.at ⟨xs,h1,hown,fun x hm=>⟨(hx x hm).1,(hx x hm).2.1,(hx x hm).2.2.keep (bF fun a u hf hu=>⟨hf.2,hu⟩)⟩⟩
theorem Kn (x:List dx) (d:dx) (v1 v2:Value) (w:World) (F:Nat→Prop) (yM:eQ (mask F w) v1 x) (zi:ve (mask F w) v2 d) (l1:bM x) (l2:dK d.map):Calls prog 151 #[v1,v2] w fun e w'=>∃v',e=.returned v'∧di F w' w.heap.size v' (fe x d)∧Bw w w':=by
 have h1:eQ w v1 x:=yM.keep nE;obtain ⟨a,b,c,rfl,i1,i2,XN⟩:=zi;have hn:bn w d.map a b c:=XN.keep nE;obtain ⟨pa,na,ca,pb,nb,cb,pc,nc,cc,rfl,rfl,rfl⟩:=aZ hn;have hb0:Bw w (w.alloc (.cells #[.int .i64 d.id,.int .i64 d.size,.slice pa na ca,.slice pb nb cb,.slice pc nc cc] 75)):=ar;have kB:=aa hb0;have yu:=aa hn;have yT:=aa XN;have HI:=aa (And.intro i1 i2);have xg:=aa l1;have nP:=aa l2;have Qd:=aa h1;clear hn XN i1 i2 l1 l2 hb0;obtain ⟨p,cp,rfl,a1,a2,ha⟩:=yM;clear h1;have HA:=aa ha;obtain ⟨N,hN⟩:=aG x.length;rw[hN] at a1 Qd;rw[hN];have hlc:=fG (n:=N) a2;have HN:=aa hN;clear ha hN a1 a2;obtain ⟨Q,hQ⟩:=aG d.id;have Et:=aa hQ;rw[hQ] at kB ⊢;clear hQ;go_enter func151,ntmps151;go_wp2_with fail;refine (sZ x _ _ (Qd.keep (af kB)) xg).mono ?_;rintro e w1 ⟨rfl,hb⟩;have aY:=bh kB hb;have aU:=aa (show pL w.heap.size (.int .i64 Q) (.int .i64 d.size) (.slice pa na ca) (.slice pb nb cb) (.slice pc nc cc) w1 from pL.below ⟨by simp,by simp,by simp,by simp,by simp⟩ hb);clear hb;obtain ⟨q0,q1,q2,q3,q4⟩:=aU.o;have hlx:=World.block_lt_of_cell? _ _ q0;cases hm:dP x with
 |false=>have HF:=aa (show fe x d=[] by unfold fe;rw[hm,if_neg (by simp)]);clear hm;go_wp2_with fail;go_ret;exact ⟨_,rfl,by rw[HF.o];exact di.none,aY⟩
 |true=>
 have HM:=aa hm;have aiJ:N≤64:=by rw[← HN.o];exact rD hm
 clear hm;go_wp2_with fail;refine (lY d _ _ ⟨_,_,_,by rw[Et.o],HI.1,HI.2,yu.keep (af aY)⟩ nP).mono ?_;rintro e w2 ⟨rfl,hb⟩;have bS:=bh aY hb;have dV:=aa (aU.below hb);clear hb q0 q1 q2 q3 q4 hlx;obtain ⟨q0,q1,q2,q3,q4⟩:=dV.o;have hlx:=World.block_lt_of_cell? _ _ q0;cases hr:cE d with
 |false=>have HF:=aa (show fe x d=[] by unfold fe;rw[hr,if_neg (by simp)]);clear hr;go_wp2_with fail;go_ret;exact ⟨_,rfl,by rw[HF.o];exact di.none,bS⟩
 |true=>
 have HW:=aa (show fe x d=if 64<(kW x d false).length then [] else kW x d false by unfold fe;rw[HM.o,hr,if_pos ⟨rfl,rfl⟩]);clear hr;go_wp2_with fail;go_loopw [5,6,7] (fun v lb i wr=>∃(k:Nat) (laid:Bool) (done:List dx) (vv:Value),vv=v∧k≤N∧i=.int .i64 k∧lb=.bool laid∧kW x d false=done++kW (x.drop k) d laid∧done.length≤N+1∧di F wr (w.heap.size+1) v done∧pL w.heap.size (.int .i64 Q) (.int .i64 d.size) (.slice pa na ca) (.slice pb nb cb) (.slice pc nc cc) wr∧Bw w wr) (fun _ _ i _=>N-(intOf i).toNat)
 case atStart=>exact ⟨0,false,[],_,rfl,dO,rfl,rfl,by rw[List.drop_zero];rfl,by simp,di.nil hlx,dV.below (ar),ak bS (ar)⟩
 case round=>
  clear q0 q1 q2 q3 q4 hlx;obtain ⟨k,laid,done,vv,Yi,hk,rfl,rfl,hput,wW,hown,fI,hb⟩:=hrel;subst Yi;have HP:=aa hput;have HB:=aa hb;have HO:=aa hown;have HX:=aa fI;obtain ⟨q0,q1,q2,q3,q4⟩:=fI;have hlx:=World.block_lt_of_cell? _ _ q0;clear hput hb hown;by_cases hlt:k<N
  case neg=>
   obtain rfl:k=N:=by omega
   have HD:=aa (show x.drop k=[] from List.drop_of_length_le (by rw[HN.o];omega));cases laid with
   |true=>
    have HF:=aa (show kW x d false=done by rw[HP.o,HD.o];simp[kW]);have HSR:=aa HO.aw;obtain ⟨p2,c2,hv2,_,_,_⟩:=HO.aw;subst hv2;obtain ⟨L,hL⟩:=aG done.length;rw[hL] at HO wW ⊢;have nV:=aa hL;clear hL HSR;by_cases h64:64<L
    ·have HG:=aa (show fe x d=[] by rw[HW.o,HF.o,nV.o,if_pos h64])
     have Y3:(64:Int)<(L:Int):=(by omega);clear h64;go_wp2_with fail;go_ret;exact ⟨_,rfl,by rw[HG.o];exact di.none,HB⟩
    ·have HG:=aa (show fe x d=done by rw[HW.o,HF.o,nV.o,if_neg h64])
     have Y3:¬(64:Int)<(L:Int):=(by omega);clear h64;go_wp2_with fail;go_ret;exact ⟨_,rfl,by rw[HG.o];exact HO.mono (by omega),HB⟩
   |false=>
    have HF:=aa (show kW x d false=done++[d] by rw[HP.o,HD.o];simp[kW]);obtain ⟨g1,c1,w3,hrun,hown2,hb2⟩:=mY (F:=F) wr (w.heap.size+1) done.length vv done d _ _ _ HO rfl (by omega) hlx HI.1 HI.2 (yT.keep (rO HB (fun k e=>by have:=HO.block k e;omega)));rw[Et.o] at hrun;have HR:=aa hrun;have nD:=aa hown2;have Av:=aa (HB.trans (hb2.mono (by omega)));obtain ⟨L,hL⟩:=aG done.length;rw[hL] at HR nD wW;have nV:=aa hL;clear hrun hown2 hb2 hL;by_cases h64:64<L+1
    ·have HG:=aa (show fe x d=[] by rw[HW.o,HF.o,List.length_append,nV.o,if_pos (by simpa using h64)])
     have Y3:(64:Int)<(L:Int)+1:=(by omega);clear h64;go_wp2_with (at_builtin;refine Lib.wpList_append_run _ rfl _ _ _ _ rfl _ _ rfl rfl _ _ HR.o ?_);go_ret;exact ⟨_,rfl,by rw[HG.o];exact di.none,Av⟩
    ·have HG:=aa (show fe x d=done++[d] by rw[HW.o,HF.o,List.length_append,nV.o,if_neg (by simpa using h64)])
     have Y3:¬(64:Int)<(L:Int)+1:=(by omega);clear h64;go_wp2_with (at_builtin;refine Lib.wpList_append_run _ rfl _ _ _ _ rfl _ _ rfl rfl _ _ HR.o ?_);go_ret;exact ⟨_,rfl,by rw[HG.o];exact nD.mono (by omega),Av⟩
  have fN:(k:Int)<(N:Int):=by omega
  obtain ⟨s,hs⟩:=fx (l:=x) (k:=k) (by rw[HN.o];omega);obtain ⟨i1,i2,g,o,a',b',c',rfl,e0,e1,e2,e3,e4,e5⟩:=HA.o k s hs;obtain ⟨pa',na',ca',pb',nb',cb',TV,Ko,TW,rfl,rfl,rfl⟩:=aZ e5;have HV0:=aa (show V5 g (o+k*5) s.id s.size (.slice pa' na' ca') (.slice pb' nb' cb') (.slice TV Ko TW) w from ⟨(aq.1 e0).2,(aq.1 e1).2,(aq.1 e2).2,(aq.1 e3).2,(aq.1 e4).2⟩);have HV:=aa (HV0.below HB);have Y4:=aa (And.intro i1 i2);have yn:=aa e5;obtain ⟨r0,r1,r2,r3,r4⟩:=HV.o;have hd:x.drop k=s::x.drop (k+1):=by obtain ⟨hk2,hx⟩:=List.getElem?_eq_some_iff.1 hs;rw[List.drop_eq_getElem_cons hk2,hx]
  have uj:=HP.o;rw[hd,Nj,Et.o] at uj;have nU:=aa (show done.length+((if laid=false∧Q≤s.id then [d] else [])++(if s.id=Q then [] else [s]):List dx).length≤N+1 by
   have h1:=Gb x d false;have h2:=HN.o;rw[uj] at h1;simp only[List.length_append,Bool.false_eq_true,if_false] at h1 ⊢;omega)
  have pK:=aa uj;clear hs hd uj e0 e1 e2 e3 e4 e5 i1 i2;obtain ⟨SI,Yu⟩:∃S,s.id=S:=⟨_,rfl⟩
  have zq:=aa Yu;rw[Yu] at pK nU HV0 HV r0;clear Yu;by_cases sW:laid=false∧Q≤SI
  ·obtain ⟨rfl,hq⟩:=sW
   have BC:decide (Q≤SI)=true:=decide_eq_true hq;have sA:=aa (show SI=Q→kW x d false=(done++[d])++kW (x.drop (k+1)) d true∧(done++[d]).length≤N+1 from fun he=>⟨by
    rw[pK.o,if_pos ⟨rfl,hq⟩,if_pos he,BC];simp,by have:=nU.o;rw[if_pos ⟨rfl,hq⟩,if_pos he] at this;simpa using this⟩)
   have Fc:=aa (show ¬SI=Q→kW x d false=((done++[d])++[s])++kW (x.drop (k+1)) d true∧((done++[d])++[s]).length≤N+1 from fun he=>⟨by
    rw[pK.o,if_pos ⟨rfl,hq⟩,if_neg he,BC];simp,by have:=nU.o;rw[if_pos ⟨rfl,hq⟩,if_neg he] at this;simp at this ⊢;omega⟩)
   go_wp2_with fail;go_quiet (fail);obtain ⟨W2,hW2⟩:∃W,wr.drewN nq=W:=⟨_,rfl⟩
   have iL:Bw wr W2:=by rw[← hW2];exact az aH _
   rw[hW2];have nD:=aa (HO.below iL);have Av:=bh HB iL;have BV:=aa (HX.below iL);have Yk:=aa (HV.below iL);have Y5:w.heap.size<W2.heap.size:=World.block_lt_of_cell? _ _ BV.1;clear hW2 iL q0 q1 q2 q3 q4 r0 r1 r2 r3 r4 hlx;have HQ:=aa hq;clear hq;obtain ⟨q0,q1,q2,q3,q4⟩:=BV.o;obtain ⟨g1,c1,w3,hrun,hown2,hb2⟩:=mY (F:=F) W2 (w.heap.size+1) done.length vv done d _ _ _ nD rfl (by omega) Y5 HI.1 HI.2 (yT.keep (rO Av (fun k e=>by have:=nD.block k e;omega)));rw[Et.o] at hrun;have HR:=aa hrun;have qi:=aa hown2;have dF:=aa (Av.trans (hb2.mono (by omega)));have kD:=aa (show pL w.heap.size (.int .i64 Q) (.int .i64 d.size) (.slice pa na ca) (.slice pb nb cb) (.slice pc nc cc) w3 from ⟨(hb2.cell (p:=⟨w.heap.size,0,none⟩) (by simp)).trans q0,(hb2.cell (p:=⟨w.heap.size,1,none⟩) (by simp)).trans q1,(hb2.cell (p:=⟨w.heap.size,2,none⟩) (by simp)).trans q2,(hb2.cell (p:=⟨w.heap.size,3,none⟩) (by simp)).trans q3,(hb2.cell (p:=⟨w.heap.size,4,none⟩) (by simp)).trans q4⟩);clear hrun hown2 hb2;go_wp2_with (at_builtin;refine Lib.wpList_append_run _ rfl _ _ _ _ rfl _ _ rfl rfl _ _ HR.o ?_);clear q0 q1 q2 q3 q4;have HV3:=aa (HV0.below dF);obtain ⟨q0,q1,q2,q3,q4⟩:=kD.o;obtain ⟨r0,r1,r2,r3,r4⟩:=HV3.o;have hlx:=World.block_lt_of_cell? _ _ q0;by_cases he:SI=Q
   ·have Yj:(SI != Q)=false:=by rw[he];simp
    have HF:=aa (sA.o he).1;have nP:=aa (sA.o he).2;clear he;go_quiet (fail);go_wp2_with fail;go_roundw
    case rel=>refine ⟨k+1,true,done++[d],_,rfl,by omega,by go_num,rfl,HF.o,nP.o,qi.o.below (az aH _),kD.o.below (az aH _),az dF.o _⟩
    case measure=>simp[intOf];omega
   ·have Yj:(SI != Q)=true:=by rw[bne_iff_ne];exact he
    have HF:=aa (Fc.o he).1;have nP:=aa (Fc.o he).2;clear he;go_quiet (fail);obtain ⟨W4,pT⟩:∃W,w3.drewN nq=W:=⟨_,rfl⟩
    have iL:Bw w3 W4:=by rw[← pT];exact az aH _
    rw[pT];have pG:=aa (qi.below iL);have fW:=bh dF iL;have jK:=aa (kD.below iL);have HV4:=aa (HV3.below iL);have Y6:w.heap.size<W4.heap.size:=World.block_lt_of_cell? _ _ jK.1;clear pT iL q0 q1 q2 q3 q4 r0 r1 r2 r3 r4 hlx;obtain ⟨q0,q1,q2,q3,q4⟩:=jK.o;obtain ⟨r0,r1,r2,r3,r4⟩:=HV4.o;have adK:=nP.o;rw[List.length_append] at adK;obtain ⟨g2,c2,w5,hrun,hown2,hb2⟩:=mY (F:=F) W4 (w.heap.size+1) (done.length+1) _ (done++[d]) s _ _ _ pG (by simp) (by omega) Y6 Y4.1 Y4.2 (yn.keep (rO fW (fun k e=>by have:=pG.block k e;omega)));rw[zq.o] at hrun;have oy:=aa hrun;have BW:=aa hown2;have bp:=aa (fW.trans (hb2.mono (by omega)));have fK:=aa (show pL w.heap.size (.int .i64 Q) (.int .i64 d.size) (.slice pa na ca) (.slice pb nb cb) (.slice pc nc cc) w5 from ⟨(hb2.cell (p:=⟨w.heap.size,0,none⟩) (by simp)).trans q0,(hb2.cell (p:=⟨w.heap.size,1,none⟩) (by simp)).trans q1,(hb2.cell (p:=⟨w.heap.size,2,none⟩) (by simp)).trans q2,(hb2.cell (p:=⟨w.heap.size,3,none⟩) (by simp)).trans q3,(hb2.cell (p:=⟨w.heap.size,4,none⟩) (by simp)).trans q4⟩);clear hrun hown2 hb2 adK;go_wp2_with (at_builtin;refine Lib.wpList_append_run _ rfl _ _ _ _ rfl _ _ rfl rfl _ _ oy.o ?_);go_roundw
    case rel=>exact ⟨k+1,true,(done++[d])++[s],_,rfl,by omega,by go_num,rfl,HF.o,nP.o,BW.o,fK.o,bp.o⟩
    case measure=>simp[intOf];omega
  ·have Sd:=aa sW
   have hc:laid=true∨(laid=false∧decide (Q≤SI)=false):=by
    cases laid
    ·exact .inr ⟨rfl,decide_eq_false fun h=>sW ⟨rfl,h⟩⟩
    ·exact .inl rfl
   have HL:=aa (show (laid || decide (Q≤SI))=laid by rcases hc with rfl|⟨rfl,h⟩ <;> simp[*]);have sA:=aa (show SI=Q→kW x d false=done++kW (x.drop (k+1)) d laid from fun he=>by
    rw[pK.o,if_neg Sd.o,if_pos he,HL.o];simp)
   have Fc:=aa (show ¬SI=Q→kW x d false=(done++[s])++kW (x.drop (k+1)) d laid∧(done++[s]).length≤N+1 from fun he=>⟨by
    rw[pK.o,if_neg Sd.o,if_neg he,HL.o];simp,by have:=nU.o;rw[if_neg Sd.o,if_neg he] at this;simpa using this⟩)
   clear sW;rcases hc with rfl|⟨rfl,hq⟩
   all_goals
    go_wp2_with fail;go_quiet (fail);obtain ⟨W2,hW2⟩:∃W,wr.drewN nq=W:=⟨_,rfl⟩
    have iL:Bw wr W2:=by rw[← hW2];exact az aH _
    rw[hW2];have nD:=aa (HO.below iL);have Av:=bh HB iL;have BV:=aa (HX.below iL);have Yk:=aa (HV.below iL);have Y5:w.heap.size<W2.heap.size:=World.block_lt_of_cell? _ _ BV.1;clear hW2 iL q0 q1 q2 q3 q4 r0 r1 r2 r3 r4 hlx;obtain ⟨q0,q1,q2,q3,q4⟩:=BV.o;obtain ⟨r0,r1,r2,r3,r4⟩:=Yk.o;go_wp2_with fail;by_cases he:SI=Q
    ·have Yj:(SI != Q)=false:=by rw[he];simp
     have HF:=aa (sA.o he);clear he;go_quiet (fail);go_wp2_with fail;go_roundw
     case rel=>exact ⟨k+1,_,done,_,rfl,by omega,by go_num,rfl,HF.o,wW,nD.o.below (az aH _),BV.o.below (az aH _),az Av.o _⟩
     case measure=>simp[intOf];omega
    ·have Yj:(SI != Q)=true:=by rw[bne_iff_ne];exact he
     have HF:=aa (Fc.o he).1;have nP:=aa (Fc.o he).2;clear he;go_quiet (fail);obtain ⟨W4,pT⟩:∃W,W2.drewN nq=W:=⟨_,rfl⟩
     have iL:Bw W2 W4:=by rw[← pT];exact az aH _
     rw[pT];have pG:=aa (nD.below iL);have fW:=aa (ak Av iL);have jK:=aa (BV.below iL);have HV4:=aa (Yk.below iL);have Y6:w.heap.size<W4.heap.size:=World.block_lt_of_cell? _ _ jK.1;clear pT iL q0 q1 q2 q3 q4 r0 r1 r2 r3 r4 Y5;obtain ⟨q0,q1,q2,q3,q4⟩:=jK.o;obtain ⟨r0,r1,r2,r3,r4⟩:=HV4.o;obtain ⟨g2,c2,w5,hrun,hown2,hb2⟩:=mY (F:=F) W4 (w.heap.size+1) done.length _ done s _ _ _ pG rfl (by omega) Y6 Y4.1 Y4.2 (yn.keep (rO fW (fun k e=>by have:=pG.block k e;omega)));rw[zq.o] at hrun;have oy:=aa hrun;have BW:=aa hown2;have bp:=aa (fW.trans (hb2.mono (by omega)));have fK:=aa (show pL w.heap.size (.int .i64 Q) (.int .i64 d.size) (.slice pa na ca) (.slice pb nb cb) (.slice pc nc cc) w5 from ⟨(hb2.cell (p:=⟨w.heap.size,0,none⟩) (by simp)).trans q0,(hb2.cell (p:=⟨w.heap.size,1,none⟩) (by simp)).trans q1,(hb2.cell (p:=⟨w.heap.size,2,none⟩) (by simp)).trans q2,(hb2.cell (p:=⟨w.heap.size,3,none⟩) (by simp)).trans q3,(hb2.cell (p:=⟨w.heap.size,4,none⟩) (by simp)).trans q4⟩);clear hrun hown2 hb2;go_wp2_with (at_builtin;refine Lib.wpList_append_run _ rfl _ _ _ _ rfl _ _ rfl rfl _ _ oy.o ?_);go_roundw
     case rel=>exact ⟨k+1,_,done++[s],_,rfl,by omega,by go_num,rfl,HF.o,nP.o,BW.o,fK.o,bp.o⟩
     case measure=>simp[intOf];omega
theorem S2:(prog.info? 9).map (fun i=>(i.zero,i.size,i.bytes))=some (some (.string ⟨#[]⟩),1,16):=by kernel_rfl
theorem sL (p:Option Addr) (n c:Nat) (xs:List Value) (w:World) (hs:iK w p n 1 xs) (hn:n≤1000000000) :
 Calls prog 68 #[.slice p n c] w fun e w'=>∃v',e=.returned v'∧w'.ownsRow w.heap.size 9 1 v' n xs∧Bw w w':=by
 obtain ⟨hl,hnil,h1,hx⟩:=hs;cases p with
 |none=>have hq:∀w:World,(binOp .eql 22 (.slice none 0 c) (.slice none 0 0)).run prog w=.ok (.bool true) w:=fun w=>Lib.run_eql_slice_nil w 22 9 none 0 c 0 0 underlying22;obtain rfl:=hnil rfl;obtain rfl:xs=[]:=List.eq_nil_of_length_eq_zero (by rw[hl,Nat.zero_mul]);clear hnil hx h1 hl hn;go_enter func68,ntmps68;go_wp2_with fail;go_ret;exact ⟨_,rfl,World.ownsRow_nil _ _ _ _,aH⟩
 |some a=>
  have HX:=aa (hx a rfl);have HL:=aa hl;have H1:=aa h1;have HN:=aa hn;clear hnil hx h1 hl hn;have hq:∀w:World,(binOp .eql 22 (.slice (some a) n c) (.slice none 0 0)).run prog w=.ok (.bool false) w:=fun w=>Lib.run_eql_slice_nil w 22 9 (some a) n c 0 0 underlying22;obtain ⟨i0,hi,hz0,hz1,hz2⟩:=info_parts S2;have HB:=aa (((Below.refl w.heap.size w).alloc aT (.cells #[] 9)));go_enter func68,ntmps68;go_wp2_with (at_builtin;refine wpList_append_own _ rfl _ _ 22 rfl w.heap.size 9 i0 (.string ⟨#[]⟩) 1 16 underlying22 hi hz0 hz1 hz2 rfl (by decide) _ 0 [] rfl (World.ownsRow_made w #[] 0 aT (by unfold maxLen;omega) rfl) a n c xs rfl ?_ ?_ ?_ ?_ ?_ ?_ ?_)
  ·exact HL.o
  ·intro j u hu;exact cell_later HB (HX j u hu)
  ·exact H1.o
  ·have:=HN.o;unfold maxLen;omega
  ·have:=HN.o;omega
  ·simp
  ·intro v' w1 hown hg _
   have HO:=aa hown;have HG:=aa hg;clear hown hg;go_wp2_with fail;go_ret;exact ⟨v',rfl,by simpa using HO.o,HB.grown HG (by simp) (fun k e=>by simp[Value.ownBlock] at e;omega)⟩
theorem uT (x:aB) (w:World):Calls prog 30 #[x.agg] w fun e w'=>e=.returned (.int .i64 (cD x))∧Bw w w':=by
 obtain ⟨c,p,s,b⟩:=x;simp only[aB.agg];have HB:=aa (show Bw w (w.alloc (.cells #[.int .i64 c,.int .i64 p,.int .i64 s,.bool b] 50)) from ar);have HC:=aa (show kT w.heap.size c p s b (w.alloc (.cells #[.int .i64 c,.int .i64 p,.int .i64 s,.bool b] 50)) from ⟨by simp,by simp,by simp,by simp⟩);by_cases hm:cO ⟨c,p,s,b⟩=true
 ·have HV:=aa (show cD ⟨c,p,s,b⟩=kr ⟨c,p,s,b⟩ by unfold cD;rw[if_pos hm])
  have hi:=(bL _).1 hm;have HM:=aa hm;clear hm;obtain ⟨k1,k2,k3,k4,k5,k6,_⟩:=hi;simp only at k1 k2 k3 k4 k5 k6;have QD:=iF k3 k4;have k6':p≤16:=by omega
  clear k6;go_enter func30,ntmps30;go_wp2_with fail;refine (oL ⟨c,p,s,b⟩ _).mono ?_;rintro e w1 ⟨rfl,hb⟩;rw[HM.o];have aY:=bh HB hb;obtain ⟨q0,q1,q2,q3⟩:=HC.below hb;have hl:=World.block_lt_of_cell? _ _ q0;clear hb;cases b
  all_goals
   go_wp2_with fail;go_ret;refine ⟨wX ?_,aY⟩;rw[HV.o];unfold kr;simp;try omega
 ·have HV:=aa (show cD ⟨c,p,s,b⟩ = -1 by unfold cD;rw[if_neg hm])
  have HM:=aa (show cO ⟨c,p,s,b⟩=false by simpa using hm);clear hm;go_enter func30,ntmps30;go_wp2_with fail;refine (oL ⟨c,p,s,b⟩ _).mono ?_;rintro e w1 ⟨rfl,hb⟩;rw[HM.o];have aY:=bh HB hb;clear hb;go_wp2_with fail;go_ret;exact ⟨wX HV.symm,aY⟩
def rj (Q:Exit→Act→World→Prop):Exit→Act→World→Prop
 |.normal,a,w=>Q .normal a w
 |_,_,_=>False
theorem Tw:¬LetsOut (rj Q):=fun ⟨_,_,h⟩=>h
theorem Cf {l:Nat} {f:FuncId} {args:Array Value} {R:Ending→World→Prop}:CallsIn (Fence.wide.inRound l) n P f args w R↔Calls P f args w R:=
 callsIn_wide (n:=n)
theorem E1 {l:Nat} {row:String} {args:Array Value} {R:Value→World→Prop} (h:Rows P row args w R):RowsIn (Fence.wide.inRound l) n P row args w R:=
 fun c cs _=>let ⟨v,w',r,s⟩:=h c cs;⟨v,w',r,stepsIn_wide.2 s⟩
def uX (ops:Array Oper):Bool:=ops.all fun o=>match o.op with | .defer _=>false|_=>true
theorem E2 (h:uX ops=true) {i:Nat} {o:Oper} (hi:ops[i]?=some o):∀c,o.op≠.defer c:=by unfold uX at h;rw[Array.all_eq_true] at h;obtain ⟨hlt,hx⟩:=Array.getElem?_eq_some_iff.1 hi;have:=h i hlt;rw[hx] at this;intro c e;rw[e] at this;cases this
theorem PD {l:Nat} (hd:uX ops=true) (hQ:¬LetsOut Q) {i:Nat} {K:Act→World→Prop} (h:wpOp P ops Q i K a w):wpOpIn (Fence.wide.inRound l) n P ops Q i K a w:=by
 unfold wpOp at h;unfold wpOpIn;cases ho:ops[i]? with
 |none=>rw[ho] at h;exact h
 |some o=>
  rw[ho] at h;simp only at h ⊢;by_cases hw:Region.wanted o (yielded ops a.tmps)=true
  ·rw[if_pos hw] at h ⊢
   rcases h with h|⟨_,h⟩
   ·refine ⟨fun _ _=>trivial,?_⟩
    unfold Oper.wp at h;rw[Oper.semAt_eq _ _ _ (E2 hd ho)]
    generalize (execOp a.eval o).run P w=r at *
    cases r with
    |ok x w'=>
     cases x <;> simp only[Oper.upon,Oper.uponIn] at h ⊢
     case value u=>exact h
     case skip=>exact h
     case defer d=>exact h
     case enter f args=>exact ⟨fun h2=>(by cases h2),Cf.2 h⟩
     case row row args=>exact ⟨fun h2=>(by cases h2),E1 h⟩
    |halt x w'=>cases x <;> simp only[Oper.upon,Oper.uponIn] at h ⊢ <;> exact h
   ·exact absurd h hQ
  ·rw[if_neg hw] at h ⊢
   exact ⟨fun _ _=>trivial,h⟩
theorem Bj {l n:Nat} {P:Program} {md:Region.Mode} {ops:Array Oper} {Q:Exit→Act→World→Prop} (hd:uX ops=true) (hQ:¬LetsOut Q):∀(fuel:Nat) (listed:Array Bool) (a:Act) (w:World),wpAny P md ops Q fuel listed a w→wpAnyIn (Fence.wide.inRound l) n P md ops Q fuel listed a w
 |0,_,_,_,h=>h
 |fuel+1,_listed,_a,_w,h=>⟨h.1,fun i hi=>PD hd hQ (wpOp_mono (fun a w h=>Bj hd hQ fuel _ a w h) (h.2 i hi))⟩
theorem fT {l:Nat} {id:Nat} {S:World→Prop} (hm:P.follows .mixedOrders=true) (hd:uX ops=true) (hS:S w.drew)
 (h:S w.drew→wpAnyH P .any ops (rj Q) S ops.size (Array.replicate ops.size false) a w.drew):(Code.region id ops true).wpIn (Fence.wide.inRound l) n P Q a w:=
 wpIn_mono (Q:=rj Q) (wpIn_region_any hm (Bj hd Tw _ _ _ _ (wpAny_of_held _ _ _ _ (h hS)))) fun e a w h=>by cases e <;> first|exact h|exact h.elim
theorem wR {id:Nat} {S:World→Prop} (hm:P.follows .mixedOrders=true) (hS:S w.drew)
 (h:S w.drew→wpAnyH P .any ops (rj Q) S ops.size (Array.replicate ops.size false) a w.drew):(Code.region id ops true).wpIn Fence.wide n P Q a w:=
 wpIn_mono (Q:=rj Q) (wpIn_wide.2 (wp_region_held hm (h hS))) fun e a w h=>by cases e <;> first|exact h|exact h.elim
end Go.Proofs.YtbigkioechkngaaGreat
namespace Go.Proofs.YtbigkioechkngaaGreat
open Go.RowKit Go.ChangeShapes Go.WideShapes Go.Deep
section
variable {H:Type} {enc:TypeId×Value→H} {P:Program} {w:World} {base:Nat} {spare:Nat→Bool} {held:Bool}
theorem iD {t e k:Nat} {fuel:Nat} {v:Value} {x:DataW H×List MemPlace} (ht:P.underlying t=some (.slice e)) (hC:P.cellsOf e=k) (hk:0<k) (h:DataW.trod enc P w base spare held fuel t [v]=some x) :
 v=.slice none 0 0∨∃(g o len cap n:Nat),fuel=n+1∧(v=.slice (some ⟨g,o,none⟩) len cap∨len=0∧∃a,v=.slice (some a) 0 cap)∧len≤cap∧cap≤maxLen ∧
  ∀i,i<len→∃cs:List Value,cs.length=k∧(∀(j:Nat) u,cs[j]?=some u→w.cell? ⟨g,o+(i*k+j),none⟩=some u)∧∃y,DataW.trod enc P w base spare held n e cs=some y:=by
 rcases DataW.trod_slice ht h with h0|⟨a,len,cap,elems,rest,n,hf,hcs,hx,hb,hl,hm,hlen,hel,_,_⟩
 ·left;exact List.head_eq_of_cons_eq h0.1
 ·right
  have hv:v=.slice (some a) len cap:=List.head_eq_of_cons_eq hcs;have key:∀i,i<len→∃cs:List Value,cs.length=k∧(∀(j:Nat) u,cs[j]?=some u→w.cell? (a.add (i*k+j))=some u)∧∃y,DataW.trod enc P w base spare held n e cs=some y:=by intro i hi;have h1:=hel i hi;rw[List.getElem?_eq_getElem (by omega),Option.bind_eq_some_iff] at h1;obtain ⟨cs,hc,hy⟩:=h1;rw[hC] at hc;obtain ⟨_,qC,hat⟩:=World.cells?_some hc;refine ⟨cs,qC,fun j u hu=>?_,_,hy⟩;have hj:=(List.getElem?_eq_some_iff.1 hu).1;rw[← Go.Deep.add_add,hat j (by omega),hu]
  obtain ⟨b,o,sp⟩:=a;by_cases h0:0<len
  ·obtain ⟨cs,qC,hat,_⟩:=key 0 h0
   have hspot:sp=none:=by
    have:=hat 0 cs[0] (List.getElem?_eq_getElem (by omega))
    simpa [Addr.add] using World.cell?_spot this
   subst hspot;refine ⟨b,o,len,cap,n,hf,.inl hv,hl,hm,fun i UX=>?_⟩;obtain ⟨cs,qC,hat,hy⟩:=key i UX;exact ⟨cs,qC,fun j u hu=>by have:=hat j u hu;rw[Go.WideShapes.add_plain] at this;exact this,hy⟩
  ·obtain rfl:len=0:=by omega
   exact ⟨b,o,0,cap,n,hf,.inr ⟨rfl,_,hv⟩,hl,hm,fun i UX=>absurd UX (by omega)⟩
theorem cA {fs:Array Field} {cs:List Value} {xs:List (DataW H×List MemPlace)} {n j T off k:Nat} (hj:(fs[j]?).map (fun f=>(f.type,f.offset))=some (T,off)) (hC:P.cellsOf T=k)
 (hf:∀(i:Nat) (f:Field),fs[i]?=some f→DataW.trod enc P w base spare held n f.type ((cs.drop f.offset).take (P.cellsOf f.type))=xs[i]?):DataW.trod enc P w base spare held n T ((cs.drop off).take k)=xs[j]?:=by
 rw[Option.map_eq_some_iff] at hj;obtain ⟨f,hf1,hf2⟩:=hj;simp only[Prod.mk.injEq] at hf2;have:=hf j f hf1;rw[hf2.1,hf2.2,hC] at this;exact this
theorem nj {α:Type} (n:Nat) (p:Nat→α→Prop) (h:∀i,i<n→∃x,p i x):∃l:List α,l.length=n∧∀i x,l[i]?=some x→p i x:=by
 induction n with
 |zero=>exact ⟨[],rfl,fun i x hx=>by simp at hx⟩
 |succ n ih=>
  obtain ⟨l,hl,hp⟩:=ih fun i hi=>h i (by omega);obtain ⟨x,hx⟩:=h n (by omega);refine ⟨l++[x],by simp[hl],fun i y hy=>?_⟩;by_cases hi:i<n
  ·rw[List.getElem?_append_left (by omega)] at hy;exact hp i y hy
  ·rw[List.getElem?_append_right (by omega)] at hy
   cases hj:i-l.length with
   |zero=>
    rw[hj] at hy;simp only[List.getElem?_cons_zero,Option.some.injEq] at hy;subst hy;obtain rfl:i=n:=by omega
    exact hx
   |succ j=>rw[hj] at hy;simp at hy
end
section
variable {H:Type} {enc:TypeId×Value→H} {w:World} {spare:Nat→Bool} {held:Bool}
theorem Br {n:Int} (h:(Lit.int .i64 n).wf=true):aQ n:=by
 have h2:IntKind.min .i64≤n∧n≤IntKind.max .i64:=by simpa [Lit.wf] using h
 have e1:IntKind.min .i64 = -9223372036854775808:=by decide
 have e2:IntKind.max .i64=9223372036854775807:=by decide
 rwa [e1,e2] at h2
theorem mM {n:Nat} {u:Value} {y:DataW H×List MemPlace} (h:DataW.trod enc Tryz.prog w 0 spare held n 3 [u]=some y):∃z:Int,u=.int .i64 z∧aQ z:=by obtain ⟨z,e,_,b⟩:=DataW.trod_int Tryz.underlying3 h;exact ⟨z,List.head_eq_of_cons_eq e,Br b⟩
theorem gC:Tryz.prog.cellsOf 3=1:=by kernel_rfl
theorem Bt:Tryz.prog.cellsOf 73=3:=by kernel_rfl
theorem PZ:Tryz.prog.cellsOf 75=5:=by kernel_rfl
theorem Bu:Tryz.prog.cellsOf 70=1:=by kernel_rfl
theorem Jg:Tryz.prog.cellsOf 71=1:=by kernel_rfl
theorem ML {n:Nat} {v:Value} {y:DataW H×List MemPlace} (h:DataW.trod enc Tryz.prog w 0 spare held n 70 [v]=some y):∃l,fA w v l:=by
 rcases iD Tryz.underlying70 gC (by omega) h with h0|⟨g,o,len,cap,n',_,hv,hl,hm,hf⟩
 ·exact ⟨[],none,0,h0,aT,dO,fun i d hd=>by simp at hd⟩
 ·obtain ⟨l,pC,hp⟩:=nj len (fun i (z:Int)=>aQ z∧w.cell? ⟨g,o+i,none⟩=some (.int .i64 z)) (fun i hi=>by
   obtain ⟨cs,qC,hat,y',hy⟩:=hf i hi
   match cs,qC with
   |[u],_=>
    obtain ⟨z,rfl,hz⟩:=mM hy;exact ⟨z,hz,by have:=hat 0 _ rfl;rw[Nat.mul_one,Nat.add_zero] at this;exact this⟩)
  rcases hv with hv|⟨h0,a,hv⟩
  ·exact ⟨l,_,cap,by rw[pC];exact hv,by rw[pC];exact hl,hm,fun i z hz=>⟨(hp i z hz).1,g,o,rfl,(hp i z hz).2⟩⟩
  ·subst h0
   obtain rfl:l=[]:=List.eq_nil_of_length_eq_zero pC;exact ⟨[],_,cap,hv,dO,hm,fun i d hd=>by simp at hd⟩
theorem P0:∀(n:Nat) (a b c:Value) (y:DataW H×List MemPlace),DataW.trod enc Tryz.prog w 0 spare held n 73 [a,b,c]=some y→∃t,bn w t a b c:=by
 intro n
 induction n using Nat.strongRecOn with
 |_ n ih=>
  intro a b c y h;obtain ⟨xs,m,rfl,_,_,hlen,hf⟩:=DataW.trod_struct Tryz.underlying73 h;have h0:=cA (j:=0) (T:=70) (off:=0) rfl Bu hf;have h1:=cA (j:=1) (T:=70) (off:=1) rfl Bu hf;have h2:=cA (j:=2) (T:=71) (off:=2) rfl Jg hf;have BN:DataW.trod enc Tryz.prog w 0 spare held m 70 [a]=xs[0]?:=h0;have Jh:DataW.trod enc Tryz.prog w 0 spare held m 70 [b]=xs[1]?:=h1;have Cm:DataW.trod enc Tryz.prog w 0 spare held m 71 [c]=xs[2]?:=h2;have BD:xs.length=3:=hlen;rw[List.getElem?_eq_getElem (by omega)] at BN Jh Cm;obtain ⟨ks,Qe⟩:=ML BN;obtain ⟨vs,Vd⟩:=ML Jh;have FL:∃l,DW w c l:=by
   rcases iD Tryz.underlying71 Bt (by omega) Cm with h0|⟨g,o,len,cap,n',Xd,hv,hl,hm,hf⟩
   ·exact ⟨[],none,0,h0,aT,dO,fun i d hd=>by simp at hd⟩
   ·obtain ⟨l,pC,hp⟩:=nj len (fun i (t:ag)=>pV w (some ⟨g,o,none⟩) i t) (fun i hi=>by
     obtain ⟨cs,qC,hat,y',hy⟩:=hf i hi
     match cs,qC with
     |[x,y,z],_=>
      obtain ⟨t,ht⟩:=ih n' (by omega) x y z _ hy;exact ⟨t,g,o,x,y,z,rfl,hat 0 _ rfl,hat 1 _ rfl,hat 2 _ rfl,ht⟩)
    rcases hv with hv|⟨h0,a,hv⟩
    ·exact ⟨l,_,cap,by rw[pC];exact hv,by rw[pC];exact hl,hm,hp⟩
    ·subst h0
     obtain rfl:l=[]:=List.eq_nil_of_length_eq_zero pC;exact ⟨[],_,cap,hv,dO,hm,fun i d hd=>by simp at hd⟩
  obtain ⟨kids,FL⟩:=FL;exact ⟨.mk ks vs kids,bA.2 ⟨Qe,Vd,FL⟩⟩
theorem TK {n:Nat} {cs:List Value} {y:DataW H×List MemPlace} (hl:cs.length=5) (h:DataW.trod enc Tryz.prog w 0 spare held n 75 cs=some y):∃(d:dx) (a b c:Value),cs=[.int .i64 d.id,.int .i64 d.size,a,b,c]∧aQ d.id∧aQ d.size∧bn w d.map a b c:=by
 match cs,hl with
 |[c0,c1,a,b,c],_=>obtain ⟨xs,m,rfl,_,_,hlen,hf⟩:=DataW.trod_struct Tryz.underlying75 h;have h0:=cA (j:=0) (T:=3) (off:=0) rfl gC hf;have h1:=cA (j:=1) (T:=3) (off:=1) rfl gC hf;have h2:=cA (j:=2) (T:=73) (off:=2) rfl Bt hf;have BN:DataW.trod enc Tryz.prog w 0 spare held m 3 [c0]=xs[0]?:=h0;have Jh:DataW.trod enc Tryz.prog w 0 spare held m 3 [c1]=xs[1]?:=h1;have Cm:DataW.trod enc Tryz.prog w 0 spare held m 73 [a,b,c]=xs[2]?:=h2;have BD:xs.length=3:=hlen;rw[List.getElem?_eq_getElem (by omega)] at BN Jh Cm;obtain ⟨i,rfl,hi⟩:=mM BN;obtain ⟨s,rfl,hs⟩:=mM Jh;obtain ⟨t,ht⟩:=P0 _ _ _ _ _ Cm;exact ⟨⟨i,s,t⟩,a,b,c,rfl,hi,hs,ht⟩
theorem P1 {n:Nat} {v:Value} {y:DataW H×List MemPlace} (h:DataW.trod enc Tryz.prog w 0 spare held n 27 [v]=some y):∃l,eQ w v l:=by
 rcases iD Tryz.underlying27 PZ (by omega) h with h0|⟨g,o,len,cap,n',_,hv,hl,hm,hf⟩
 ·exact ⟨[],none,0,h0,aT,dO,fun i d hd=>by simp at hd⟩
 ·obtain ⟨l,pC,hp⟩:=nj len (fun i (d:dx)=>aQ d.id∧aQ d.size∧∃a b c,w.cell? ⟨g,o+i*5,none⟩=some (.int .i64 d.id)∧w.cell? ⟨g,o+i*5+1,none⟩=some (.int .i64 d.size)∧w.cell? ⟨g,o+i*5+2,none⟩=some a∧w.cell? ⟨g,o+i*5+3,none⟩=some b∧w.cell? ⟨g,o+i*5+4,none⟩=some c∧bn w d.map a b c) (fun i hi=>by
   obtain ⟨cs,qC,hat,y',hy⟩:=hf i hi;obtain ⟨d,a,b,c,rfl,h1,h2,h3⟩:=TK qC hy;exact ⟨d,h1,h2,a,b,c,hat 0 _ rfl,hat 1 _ rfl,hat 2 _ rfl,hat 3 _ rfl,hat 4 _ rfl,h3⟩)
  rcases hv with hv|⟨h0,a,hv⟩
  ·refine ⟨l,_,cap,by rw[pC];exact hv,by rw[pC];exact hl,hm,fun i d hd=>?_⟩
   obtain ⟨h1,h2,a,b,c,h3⟩:=hp i d hd;exact ⟨h1,h2,g,o,a,b,c,rfl,h3⟩
  ·subst h0
   obtain rfl:l=[]:=List.eq_nil_of_length_eq_zero pC;exact ⟨[],_,cap,hv,dO,hm,fun i d hd=>by simp at hd⟩
end
end Go.Proofs.YtbigkioechkngaaGreat
