/- The proof, part 1. -/
import Derived.Lib.Hide
import Derived.Below
import Derived.WalkKit
import Derived.WalkSpells
import Derived.WalkLawsBesides
import Derived.IntWalk
import Derived.Deep.QuietTactic
import Derived.BigQuiet
import Derived.Sort.Grow
import Derived.Deep.OwnRows
import Derived.Maps.AppendAt
import Derived.RangeFuncBox
import Derived.Lib.AppendZeros
import Derived.Laws.CopyOwn
import Derived.Lib.AppendZerosOnto
import Derived.Lib.Overlaps
import Derived.Laws.Externs
import Derived.Test.YtbigkioechkngaaGreatProg
import Derived.Test.YtbigkioechkngaaGreatChecked
import Derived.Laws.AppendOwnNone
import Derived.Deep.RegionHeld3
import Derived.Deep.AppendLies
import Derived.Deep.Cut
import Derived.Deep.CutRange
import Derived.Deep.LoopGhost
import Derived.Deep.RegionLaw
import Derived.Outline
set_option maxRecDepth 100000
set_option maxHeartbeats 8000000
namespace Go.RowKit
theorem Hid.o {p:Prop} (h:Hid p):p:=h
end Go.RowKit
namespace Go.Proofs.YtbigkioechkngaaGreat
open Go.RowKit Tryz
theorem aa {p:Prop} (h:p):Hid p:=h
theorem aG {α:Sort _} (a:α):∃b,a=b:=⟨_,rfl⟩
theorem aT {a:Nat}:a≤a:=Nat.le_refl _
theorem dO {a:Nat}:0≤a:=Nat.zero_le _
theorem aH {B:Nat} {w:World}:Below B w w:=Below.refl _ _
theorem ar {w:World} {o:Obj}:Below w.heap.size w (w.alloc o):=(Below.refl _ _).alloc (Nat.le_refl _) _
abbrev Bw (w w':World):Prop:=Below w.heap.size w w'
theorem bh {w w1 w2:World} (h:Hid (Below w.heap.size w w1)) (k:Below w1.heap.size w1 w2):Hid (Below w.heap.size w w2):=(Hid.out h).trans (k.mono (Hid.out h).size)
abbrev uu:Value:=undef
theorem fG {n c:Nat} (h2:c≤maxLen) (h1:n≤c:=by omega):(n:Int)≤9223372036854775807:=by unfold maxLen at h2;omega
theorem fx {α:Type _} {l:List α} {k:Nat} (h:k<l.length):∃s,l[k]?=some s:=⟨_,List.getElem?_eq_getElem h⟩
end Go.Proofs.YtbigkioechkngaaGreat
namespace Go.Proofs.YtbigkioechkngaaGreat
open Go.RowKit Go.Sort
open Tryz
theorem az {B:Nat} {a w:World} (h:Below B a w) (n:Nat):Below B a (w.drewN n):=⟨h.os,h.tape,h.output,h.size,h.block⟩
theorem ak {w w1 w2:World} (h:Bw w w1) (k:Bw w1 w2):Bw w w2:=h.trans (k.mono h.size)
end Go.Proofs.YtbigkioechkngaaGreat
namespace Go.Proofs.YtbigkioechkngaaGreat
open Go.RowKit Tryz
variable {xs:List Value}{B cap g k n size:Nat}{row:Option Nat}{P:Program}{v:Value}{w w':World}
theorem bz {B':Nat} {e:TypeId} (h:B≤B') (ho:w.ownsRow B' e size v n xs):w.ownsRow B e size v n xs:=by
 refine ⟨ho.1,?_⟩;rcases ho.2 with h1|⟨g,cap,cur,h1,h2,h3⟩
 ·exact .inl h1
 ·exact .inr ⟨g,cap,cur,h1,Nat.le_trans h h2,h3⟩
theorem jM (g j:Nat):(⟨g,0,none⟩:Addr).add j=⟨g,j,none⟩:=by unfold Addr.add;split <;> simp_all
theorem nA (g o j:Nat):(⟨g,o,none⟩:Addr).add j=⟨g,o+j,none⟩:=by unfold Addr.add;split <;> simp_all
theorem bG {e:TypeId} (h:w.ownsRow B e size (.slice (some ⟨g,0,none⟩) n cap) n xs) (j:Nat) (hj:j<xs.length):w.cell? ⟨g,j,none⟩=some xs[j]:=by
 have:=h.cells (g:=g) rfl j _ (List.getElem?_eq_getElem hj)
 rwa [jM] at this
theorem JG {m:Nat} {e:TypeId} (h:w.ownsRow B e size (.slice (some ⟨g,0,none⟩) m cap) n xs):m=n∧n≤cap∧B≤g∧g<w.heap.size:=by
 rcases h.2 with ⟨h1,_⟩|⟨g',cap',cur,h1,h2,h3,h4,_⟩
 ·cases h1
 ·injection h1 with a b c
  injection a with a;injection a with a _;subst a;subst b;subst c;exact ⟨rfl,h4,h2,(Array.getElem?_eq_some_iff.1 h3).1⟩
theorem lR {wr w1:World} {o:Obj} {e:TypeId} (hb:Below B w wr) (hs:B≤wr.heap.size) (hown:wr.ownsRow B e size v n xs) (hg:(wr.alloc o).grownBy w1 v.ownBlock):Below B w w1:=
 (hb.alloc hs o).grown hg (by simp;omega) (fun k e=>(hown.lt k e).1)
def lT (l:List UInt8):List Value:=l.map fun b=>.int .u8 (b.toNat:Nat)
theorem BJ (l:List UInt8):(lT l).length=l.length:=by simp[lT]
theorem FD (l:List UInt8) (b:UInt8):lT l++[.int .u8 (b.toNat:Nat)]=lT (l++[b]):=by simp[lT]
theorem DU {e src dst:TypeId} {l:List UInt8} (hs:P.underlying src=some (.slice e)) (he:P.underlying e=some (.int .u8)) (hd:P.underlying dst=some .string)
 (h:w.ownsRow B e 1 (.slice (some ⟨g,0,none⟩) l.length cap) l.length (lT l)):(convert src dst (.slice (some ⟨g,0,none⟩) l.length cap)).run P w=.ok (.string ⟨l.toArray⟩) w:=by
 refine run_convert_bytes_back w src dst e ⟨g,0,none⟩ cap l hs he hd (fun j hj=>?_);rw[jM,bG h j (by rw[BJ];exact hj)];simp[lT]
def iK (w:World) (p:Option Addr) (n k:Nat) (xs:List Value):Prop:=
 xs.length=n*k∧(p=none→n=0)∧(∀u∈xs,u.oneCell'=true)∧∀a,p=some a→∀j u,xs[j]?=some u→w.cell? (a.add j)=some u
theorem iK.stays {p:Option Addr} (h:iK w p n k xs) (hb:Bw w w'):iK w' p n k xs:=
 ⟨h.1,h.2.1,h.2.2.1,fun a ha j u hu=>(hb.cell (World.block_lt_of_cell? w _ (h.2.2.2 a ha j u hu))).trans (h.2.2.2 a ha j u hu)⟩
theorem bl {e:TypeId} (h:w.ownsRow B e k (.slice (some ⟨g,0,none⟩) n cap) n xs) :
 ∃cur:Array Value,w.heap[g]?=some (.cells cur e (0,0))∧B≤g∧n≤cap∧cap≤maxLen∧cur.size=cap*k∧cur.toList.take (n*k)=xs:=by
 rcases h.2 with ⟨h1,_⟩|⟨g',cap',cur,h1,h2,h3,h4,h5,h6,h7⟩
 ·cases h1
 ·injection h1 with a b c
  injection a with a;injection a with a _;subst a;subst c;exact ⟨cur,h3,h2,h4,h5,h6,h7⟩
theorem lU {e:TypeId} (h:w.ownsRow B e k (.slice (some ⟨g,0,none⟩) n cap) n xs) (j:Nat) (u:Value) (_hj:j<xs.length) :
 (w.setCell ⟨g,j,none⟩ u).ownsRow B e k (.slice (some ⟨g,0,none⟩) n cap) n (xs.set j u):=by
 obtain ⟨cur,h3,h2,h4,h5,h6,h7⟩:=bl h;refine ⟨by rw[List.length_set];exact h.1,.inr ⟨g,cap,cur.setIfInBounds j u,rfl,h2,?_,h4,h5,by simpa using h6,?_⟩⟩
 ·rw[setCell_eq_setRow w g j cur e (0,0) u h3];exact setRow_heap w g cur _ e _ h3
 ·rw[Array.toList_setIfInBounds,List.take_set,h7]
theorem gj {e:TypeId} (h:w.ownsRow B e k (.slice (some ⟨g,0,none⟩) n cap) n xs) (j:Nat):w.frozen? ⟨g,j,none⟩=false:=by obtain ⟨cur,h3,_⟩:=bl h;simp[World.frozen?,h3]
theorem aJ {e:TypeId} (h:w.ownsRow B e k v n xs):v=.slice none 0 0∧n=0∧xs=[]∨∃g cap,v=.slice (some ⟨g,0,none⟩) n cap:=by
 rcases h.2 with ⟨h1,h2⟩|⟨g,cap,cur,h1,_⟩
 ·exact .inl ⟨h1,h2,List.eq_nil_of_length_eq_zero (by rw[h.1,h2,Nat.zero_mul])⟩
 ·exact .inr ⟨g,cap,h1⟩
theorem Yg {e:TypeId} (h:w.ownsRow B e k v n xs) (h1:∀u∈xs,u.oneCell'=true):∃p c,v=.slice p n c∧n≤c∧c≤maxLen∧iK w p n k xs:=by
 rcases aJ h with ⟨hv,hn,hx⟩|⟨g,cap,hv⟩
 ·subst hn;subst hx
  exact ⟨none,0,hv,aT,dO,by simp,fun _=>rfl,by simp,by simp⟩
 ·subst hv
  obtain ⟨cur,_,_,h4,h5,_⟩:=bl h;refine ⟨_,cap,rfl,h4,h5,h.1,(fun e=>by cases e),h1,fun a ha j u hu=>?_⟩;cases ha;have hj:j<xs.length:=(List.getElem?_eq_some_iff.1 hu).1;have:=bG h j hj;rw[jM,this,← hu,List.getElem?_eq_getElem hj]
theorem aS (h:Bw w w') (row:Option Nat):w.grownBy w' row:=⟨h.os,h.tape,h.output,h.size,fun k hk _=>h.block k hk⟩
theorem BK (w:World) (g j:Nat) (u:Value):w.grownBy (w.setCell ⟨g,j,none⟩ u) (some g):=
 ⟨rfl,rfl,rfl,by simp,fun k _ hk=>Below.heap_setCell _ _ _ k (fun e=>hk (by rw[e]))⟩
theorem iE (w:World) (g:Nat) (c:Array Value):w.grownBy (w.setRow g c) (some g):=
 ⟨rfl,rfl,rfl,by simp[World.setRow],fun k _ hk=>setRow_other w g k c (fun e=>hk (by rw[e]))⟩
theorem aW {A B C:World} (h:A.grownBy B row) (k:B.grownBy C row):A.grownBy C row:=
 ⟨k.os.trans h.os,k.tape.trans h.tape,k.output.trans h.output,Nat.le_trans h.size k.size,fun i hi hne=>(k.block i (Nat.lt_of_lt_of_le hi h.size) hne).trans (h.block i hi hne)⟩
theorem ko (w:World) (row:Option Nat):w.grownBy w row:=⟨rfl,rfl,rfl,aT,fun _ _ _=>rfl⟩
theorem sU {A B:World} (h:A.grownBy B row) (n:Nat):A.grownBy (B.drewN n) row:=⟨h.os,h.tape,h.output,h.size,h.block⟩
theorem fy (h:w.grownBy w' row) (hB:B≤w.heap.size) (hr:∀k,row=some k→B≤k):Below B w w':=
 ⟨h.os,h.tape,h.output,h.size,fun k hk=>h.block k (Nat.lt_of_lt_of_le hk hB) (fun e=>by have:=hr k e.symm;omega)⟩
section
variable {α:Type}
def nB (k:Nat) (L:List (List α)):Prop:=∀l∈L,l.length=k
theorem wU {k:Nat}:∀ {L:List (List α)},nB k L→L.flatten.length=L.length*k
 |[],_=>by simp
 |l::L,h=>by rw[List.flatten_cons,List.length_append,wU (fun x hx=>h x (by simp[hx])),h l (by simp),List.length_cons,Nat.add_mul,Nat.one_mul,Nat.add_comm]
theorem Ci {k:Nat}:∀ {L:List (List α)} (i:Nat),nB k L→L.flatten.take (i*k)=(L.take i).flatten
 |[],i,_=>by simp
 |l::L,0,_=>by simp
 |l::L,i+1,h=>by have hl:=h l (by simp);rw[List.flatten_cons,List.take_succ_cons,List.flatten_cons,← Ci i (fun x hx=>h x (by simp[hx])),Nat.add_mul,Nat.one_mul,List.take_append,hl];rw[List.take_of_length_le (by rw[hl];omega),Nat.add_sub_cancel]
theorem Cj {k:Nat}:∀ {L:List (List α)} (i:Nat),nB k L→L.flatten.drop (i*k)=(L.drop i).flatten
 |[],i,_=>by simp
 |l::L,0,_=>by simp
 |l::L,i+1,h=>by have hl:=h l (by simp);rw[List.flatten_cons,List.drop_succ_cons,← Cj i (fun x hx=>h x (by simp[hx])),Nat.add_mul,Nat.one_mul,List.drop_append,hl];rw[List.drop_of_length_le (by rw[hl];omega),Nat.add_sub_cancel,List.nil_append]
theorem pU {k:Nat}:∀ {L:List (List α)} {i r:Nat} {l:List α} (u:α),nB k L→L[i]?=some l→r<k→L.flatten.set (i*k+r) u=(L.set i (l.set r u)).flatten
 |[],i,r,l,u,_,hl,_=>by simp at hl
 |l0::L,0,r,l,u,h,hl,hr=>by simp only[List.getElem?_cons_zero,Option.some.injEq] at hl;subst hl;rw[Nat.zero_mul,Nat.zero_add,List.flatten_cons,List.set_cons_zero,List.flatten_cons,List.set_append_left _ _ (by rw[h l0 (by simp)];exact hr)]
 |l0::L,i+1,r,l,u,h,hl,hr=>by have h0:=h l0 (by simp);rw[List.flatten_cons,List.set_cons_succ,List.flatten_cons,← pU u (fun x hx=>h x (by simp[hx])) (by simpa using hl) hr,List.set_append_right _ _ (by rw[h0,Nat.add_mul];omega),h0];congr 2;rw[Nat.add_mul];omega
end
theorem oJ (w:World) (dT sT ty elem:TypeId) (k g o dLen ah6:Nat) (a:Addr) (sLen sCap m:Nat) (cur:Array Value) (t:TypeId) (cs:List Value)
 (hu:P.underlying dT=some (.slice elem)) (hs:(P.info? elem).map (·.size)=some k)
 (hg:w.heap[g]?=some (.cells cur t (0,0))) (hm:Nat.min sLen dLen=m) (hn:cs.length=m*k)
 (jh:∀j v,cs[j]?=some v→w.cell? (a.add j)=some v) (JH:o+cs.length≤cur.size) (h1:∀v∈cs,v.oneCell'=true) :
 (Builtin.copy_ #[dT,sT] ty #[.slice (some ⟨g,o,none⟩) dLen ah6,.slice (some a) sLen sCap]).run P w =
  .ok (goInt m) (w.setRow g (cur.toList.take o++cs++cur.toList.drop (o+cs.length)).toArray):=by
 have hl:=run_loadCells_list (P:=P) w a cs jh;have hst:=run_storeCells_at P g o t cs 0 cur w hg (by simpa using JH) h1;cases hq:P.info? elem with
 |none=>simp[hq] at hs
 |some i=>
  have hi:i.size=k:=by simpa [hq] using hs
  simp[Builtin.copy_,run_underlying hu,Builtin.lenOf,Builtin.firstCells,sizeOf,typeInfo,hq,hi,hm,← hn,hl,hst]
theorem FE (w:World) (t ty e:TypeId) (z:Value) (g o n c:Nat) (cur:Array Value) (te:TypeId) (ht:P.underlying t=some (.slice e)) (hz:∀w,(zeroValue e).run P w=.ok z w)
 (hg:w.heap[g]?=some (.cells cur te (0,0))) (hn:0<n) (JH:o+n*z.cells.size≤cur.size) (h1:∀u∈(Builtin.zeroCells z.cells n).toList,u.oneCell'=true) :
 (Builtin.clear_ #[t] ty #[.slice (some ⟨g,o,none⟩) n c]).run P w=.ok (.tuple #[]) (w.setRow g (cur.toList.take o++(Builtin.zeroCells z.cells n).toList++cur.toList.drop (o+(Builtin.zeroCells z.cells n).toList.length)).toArray):=by
 have hl:(Builtin.zeroCells z.cells n).toList.length=n*z.cells.size:=by rw[Array.length_toList,size_zeroCells]
 have hst:=run_storeCells_at P g o te (Builtin.zeroCells z.cells n).toList 0 cur w hg (by rw[hl];simpa using JH) h1;obtain ⟨m,rfl⟩:∃m,n=m+1:=⟨n-1,by omega⟩
 simp only[Nat.add_zero] at hst;simp[Builtin.clear_,run_underlying ht,hz,hst]
theorem nQ {ops:Array Oper} {o:Oper} {a:Act} {K:Act→World→Prop} {Q:Exit→Act→World→Prop} {E:Prop}
 (hg:o.guard=none) (d x:Operand) (dT sT:TypeId) (hop:o.op=Op.call {callee:=Callee.builtin Builtin.append,args := #[d,x],argTypes := #[dT,sT]})
 (v u:Value) (hd:a.eval d=v) (hx:a.eval x=u) {v':Value} (hr:(Builtin.append_ #[dT,sT] o.type #[v,u]).run P w=.ok v' w') (hK:K (a.put o.dst v') w') :
 if Region.wanted o (yielded ops a.tmps)=true then Oper.wp P o a w K Q else E:=by
 have hw:Region.wanted o (yielded ops a.tmps)=true:=by simp[Region.wanted,hg]
 rw[if_pos hw];exact Lib.wp_append_run w d x dT sT hop v u hd hx v' w' hr hK
theorem Qs:(prog.info? 73).map (fun i=>(i.zero,i.size,i.bytes))=some (some (.agg #[.slice none 0 0,.slice none 0 0,.slice none 0 0]),3,72):=by kernel_rfl
end Go.Proofs.YtbigkioechkngaaGreat
namespace Go.Proofs.YtbigkioechkngaaGreat
open Go.RowKit Tryz
variable {v:Value}{w w':World}
inductive ag where
 |mk (keys vals:List Int) (kids:List ag)
namespace ag
def keys:ag→List Int | .mk k _ _=>k
def vals:ag→List Int | .mk _ v _=>v
def kids:ag→List ag | .mk _ _ c=>c
theorem ind {P:ag→Prop} (h:∀ks vs kids,(∀t∈kids,P t)→P (.mk ks vs kids)) (t:ag):P t:=
 match t with
 |.mk ks vs kids=>h ks vs kids fun s _hs=>ind (P:=P) h s
termination_by SizeOf.sizeOf t
decreasing_by
 have:=List.sizeOf_lt_of_mem ‹_∈kids›;simp;omega
end ag
def aQ (x:Int):Prop := -9223372036854775808≤x∧x≤9223372036854775807
def DV (w:World) (p:Option Addr) (l:List Int):Prop:=
 ∀i x,l[i]?=some x→aQ x∧∃g o,p=some ⟨g,o,none⟩∧w.cell? ⟨g,o+i,none⟩=some (.int .i64 x)
def fA (w:World) (v:Value) (l:List Int):Prop:=∃p c,v=.slice p l.length c∧l.length≤c∧c≤maxLen∧DV w p l
mutual
def bn (w:World):ag→Value→Value→Value→Prop
 |.mk ks vs kids,a,b,c=>fA w a ks∧fA w b vs∧∃p cap,c=.slice p kids.length cap∧kids.length≤cap∧cap≤maxLen∧zf w p 0 kids
def zf (w:World) (p:Option Addr):Nat→List ag→Prop
 |_,[]=>True
 |i,t::ts=>(∃g o x y z,p=some ⟨g,o,none⟩∧w.cell? ⟨g,o+i*3,none⟩=some x∧w.cell? ⟨g,o+i*3+1,none⟩=some y∧w.cell? ⟨g,o+i*3+2,none⟩=some z∧bn w t x y z)∧zf w p (i+1) ts
end
def pV (w:World) (p:Option Addr) (i:Nat) (t:ag):Prop:=
 ∃g o x y z,p=some ⟨g,o,none⟩∧w.cell? ⟨g,o+i*3,none⟩=some x∧w.cell? ⟨g,o+i*3+1,none⟩=some y∧w.cell? ⟨g,o+i*3+2,none⟩=some z∧bn w t x y z
theorem zg {w:World} {p:Option Addr}:∀ {l:List ag} {i:Nat},zf w p i l↔∀j t,l[j]?=some t→pV w p (i+j) t
 |[],i=>⟨fun _ j t h=>by simp at h,fun _=>by simp only[zf]⟩
 |a::l,i=>by
  simp only[zf];rw[zg (l:=l)];constructor
  ·rintro ⟨h1,h2⟩ j t hj
   cases j with
   |zero=>simp only[List.getElem?_cons_zero,Option.some.injEq] at hj;subst hj;exact h1
   |succ j=>rw[List.getElem?_cons_succ] at hj;have:=h2 j t hj;rw[show i+(j+1)=i+1+j by omega];exact this
  ·intro h
   refine ⟨h 0 a rfl,fun j t hj=>?_⟩;have:=h (j+1) t (by rw[List.getElem?_cons_succ];exact hj);rw[show i+1+j=i+(j+1) by omega];exact this
def DW (w:World) (v:Value) (l:List ag):Prop:=∃p c,v=.slice p l.length c∧l.length≤c∧c≤maxLen∧∀j t,l[j]?=some t→pV w p j t
theorem bA {t:ag} {a b c:Value}:bn w t a b c↔fA w a t.keys∧fA w b t.vals∧DW w c t.kids:=by
 cases t with
 |mk ks vs kids=>simp only[bn,ag.keys,ag.vals,ag.kids,DW,zg,Nat.zero_add]
theorem ae {W W':World} (hb:Bw W W') {a:Addr} (h:W.cell? a=some v):W'.cell? a=some v:=(hb.cell (World.block_lt_of_cell? W _ h)).trans h
def dI (W W':World):Prop:=∀(a:Addr) (v:Value),W.cell? a=some v→W'.cell? a=some v
theorem af {W W':World} (hb:Bw W W'):dI W W':=fun _ _ h=>ae hb h
theorem DV.keep {p:Option Addr} {l:List Int} (h:DV w p l) (hk:dI w w'):DV w' p l:=fun i x hx=>by obtain ⟨h0,g,o,h1,h2⟩:=h i x hx;exact ⟨h0,g,o,h1,hk _ _ h2⟩
theorem fA.keep {l:List Int} (h:fA w v l) (hk:dI w w'):fA w' v l:=by obtain ⟨p,c,h1,h2,h3,h4⟩:=h;exact ⟨p,c,h1,h2,h3,h4.keep hk⟩
theorem bn.keep (hk:dI w w'):∀ {t:ag} {a b c:Value},bn w t a b c→bn w' t a b c:=by
 intro t
 induction t using ag.ind with
 |h ks vs kids ih=>intro a b c h;rw[bA] at h ⊢;obtain ⟨h1,h2,p,cap,h3,h4,h5,h6⟩:=h;refine ⟨h1.keep hk,h2.keep hk,p,cap,h3,h4,h5,fun j t hj=>?_⟩;obtain ⟨g,o,x,y,z,e0,e1,e2,e3,e4⟩:=h6 j t hj;exact ⟨g,o,x,y,z,e0,hk _ _ e1,hk _ _ e2,hk _ _ e3,ih t (List.mem_of_getElem? hj) e4⟩
structure dx where
 id:Int
 size:Int
 map:ag
def ve (w:World) (v:Value) (d:dx):Prop:=∃a b c,v=.agg #[.int .i64 d.id,.int .i64 d.size,a,b,c]∧aQ d.id∧aQ d.size∧bn w d.map a b c
def eQ (w:World) (v:Value) (l:List dx):Prop:=
 ∃p cap,v=.slice p l.length cap∧l.length≤cap∧cap≤maxLen∧∀j d,l[j]?=some d→aQ d.id∧aQ d.size∧∃g o a b c,p=some ⟨g,o,none⟩∧w.cell? ⟨g,o+j*5,none⟩=some (.int .i64 d.id)∧w.cell? ⟨g,o+j*5+1,none⟩=some (.int .i64 d.size) ∧
  w.cell? ⟨g,o+j*5+2,none⟩=some a∧w.cell? ⟨g,o+j*5+3,none⟩=some b∧w.cell? ⟨g,o+j*5+4,none⟩=some c∧bn w d.map a b c
theorem eQ.keep {l:List dx} (h:eQ w v l) (hk:dI w w'):eQ w' v l:=by obtain ⟨p,cap,h1,h2,h3,h4⟩:=h;refine ⟨p,cap,h1,h2,h3,fun j d hj=>?_⟩;obtain ⟨i1,i2,g,o,a,b,c,e0,e1,e2,e3,e4,e5,e6⟩:=h4 j d hj;exact ⟨i1,i2,g,o,a,b,c,e0,hk _ _ e1,hk _ _ e2,hk _ _ e3,hk _ _ e4,hk _ _ e5,e6.keep hk⟩
end Go.Proofs.YtbigkioechkngaaGreat
namespace Go.Proofs.YtbigkioechkngaaGreat
open Go.RowKit Tryz
variable {a:Act}{ops:Array Oper}{b:Bool}{Q:Exit→Act→World→Prop}{depth n:Int}{ks vs ys:List Int}{kids us:List ag}{l:List dx}{B c g i k:Nat}{F:Nat→Prop}{o oi:Oper}{P:Program}{v x y z:Value}{W W' w w':World}{t u:ag}
mutual
def vg:ag→Bool
 |.mk ks vs kids=>Qt kids&&(decide (ks.length≤30)&&decide (vs.length≤30)&&decide (kids.length≤30))
def Qt:List ag→Bool
 |[]=>true
 |t::ts=>vg t&&Qt ts
end
theorem ue:∀(l:List ag),Qt l=l.all vg
 |[]=>by simp only[Qt,List.all_nil]
 |t::ts=>by simp only[Qt,List.all_cons,ue ts]
theorem kH {a b:Int} (h:a=b):Ending.returned (.int .i64 a)=.returned (.int .i64 b):=by rw[h]
theorem aN {a:Bool} (h:a=b):Ending.returned (.bool a)=.returned (.bool b):=by rw[h]
def gN (g:Nat) (x y z:Value) (w:World):Prop:=w.cell? ⟨g,0,none⟩=some x∧w.cell? ⟨g,1,none⟩=some y∧w.cell? ⟨g,2,none⟩=some z
theorem gN.below (h:gN g x y z w) (hb:Bw w w'):gN g x y z w':=⟨ae hb h.1,ae hb h.2.1,ae hb h.2.2⟩
theorem UB (t:ag):∀(a b c:Value) (w:World),bn w t a b c→Calls prog 104 #[.agg #[a,b,c]] w fun e w'=>e=.returned (.bool (vg t))∧Bw w w':=by
 induction t using ag.ind with
 |h ks vs kids ih=>
  intro a b c w hn;have zh:=aa ih;clear ih;obtain ⟨⟨pa,ca,rfl,a1,a2,_⟩,⟨pb,cb,rfl,b1,b2,_⟩,⟨pc,cc,rfl,c1,c2,hk⟩⟩:=bA.1 hn;simp only[ag.keys,ag.vals,ag.kids] at a1 b1 c1 hk ⊢;have HK:=aa hk;clear hk hn;have hla:=fG (n:=ks.length) a2;have hlb:=fG (n:=vs.length) b2;have hlc:=fG (n:=kids.length) c2;clear a1 a2 b1 b2 c1 c2;go_enter func104,ntmps104;go_wp2_with fail;go_loopw [3] (fun i wr=>∃k:Nat,k≤kids.length∧i=.int .i64 k∧(∀j,j<k→∀s,kids[j]?=some s→vg s=true)∧gN w.heap.size (.slice pa ks.length ca) (.slice pb vs.length cb) (.slice pc kids.length cc) wr∧Bw w wr) (fun i _=>kids.length-(intOf i).toNat)
  case atStart=>exact ⟨0,dO,rfl,fun j hj=>by omega,⟨by simp,by simp,by simp⟩,ar⟩
  case round=>
   obtain ⟨k,hk,rfl,hall,fI,hb⟩:=hrel;have HA:=aa hall;have HX:=aa fI;have HB:=aa hb;obtain ⟨q0,q1,q2⟩:=fI;have hlx:=World.block_lt_of_cell? _ _ q0;clear hall hb;by_cases hlt:k<kids.length
   case neg=>
    obtain rfl:k=kids.length:=by omega
    have HF:=aa (show vg (.mk ks vs kids)=(decide (ks.length≤30)&&decide (vs.length≤30)&&decide (kids.length≤30)) by
     simp only[vg,ue];rw[List.all_eq_true.2 (fun s hs=>by obtain ⟨j,hj⟩:=List.mem_iff_getElem?.1 hs;exact HA j (List.getElem?_eq_some_iff.1 hj).1 s hj),Bool.true_and])
    have hc:(¬(ks.length:Int)≤30)∨((ks.length:Int)≤30∧¬(vs.length:Int)≤30)∨((ks.length:Int)≤30∧(vs.length:Int)≤30∧¬(kids.length:Int)≤30)∨((ks.length:Int)≤30∧(vs.length:Int)≤30∧(kids.length:Int)≤30):=(by omega);rcases hc with h1|⟨h1,h2⟩|⟨h1,h2,h3⟩|⟨h1,h2,h3⟩
    all_goals
     go_wp2_with fail;go_ret;refine ⟨aN ?_,HB⟩;rw[HF.o]
     first|(simp;done)|(simp;omega)
   have fN:(k:Int)<(kids.length:Int):=(by omega);obtain ⟨s,hs⟩:=fx (l:=kids) (k:=k) hlt;obtain ⟨g,o,x,y,z,rfl,e1,e2,e3,e4⟩:=HK.o k s hs;have r1:=ae HB e1;have r2:=ae HB e2;have r3:=ae HB e3;have HN:=aa (e4.keep (af HB));have HS:=aa hs;have HM:=aa (List.mem_of_getElem? hs);clear hs e1 e2 e3 e4;cases hfs:vg s with
   |true=>
    have HT:=aa hfs;clear hfs;go_wp2_with fail;refine (zh s HM x y z _ HN).mono ?_;rintro e w1 ⟨rfl,hb⟩;rw[HT.o];have aY:=bh HB hb;have aU:=aa (HX.below hb);clear hb;go_wp2_with fail;go_roundw
    case rel=>
     refine ⟨k+1,by omega,by go_num,fun j hj s' nM=>?_,aU.o,aY.o⟩;by_cases e:j=k
     ·subst e;rw[HS.o] at nM;cases nM;exact HT.o
     ·exact HA j (by omega) s' nM
    case measure=>simp[intOf];omega
   |false=>
    have HT:=aa hfs;clear hfs;have HF:=aa (show vg (.mk ks vs kids)=false by
     simp only[vg,ue];rw[List.all_eq_false.2 ⟨s,HM,by rw[HT.o];simp⟩,Bool.false_and])
    go_wp2_with fail;refine (zh s HM x y z _ HN).mono ?_;rintro e w1 ⟨rfl,hb⟩;rw[HT.o];have aY:=bh HB hb;clear hb;go_wp2_with fail;go_ret;exact ⟨aN HF.symm,aY⟩
mutual
def fL:ag→Int→Int
 |.mk _ _ kids,most=>iQ kids 1 most
def iQ:List ag→Int→Int→Int
 |[],n,_=>n
 |t::ts,n,most=>if n<most then iQ ts (n+fL t (most-n)) most else n
end
theorem MM (l:List ag) (hl:∀t∈l,∀m,1≤m→1≤fL t m∧fL t m≤m):∀n most,1≤n→n≤most→n≤iQ l n most∧iQ l n most≤most:=by
 induction l with
 |nil=>intro n most h1 h2;simp only[iQ];omega
 |cons t ts ih=>
  intro n most h1 h2;simp only[iQ]
  split
  ·have h3:=hl t (by simp) (most-n) (by omega)
   have h4:=ih (fun s hs=>hl s (by simp[hs])) (n+fL t (most-n)) most (by omega) (by omega);omega
  ·omega
theorem MN (t:ag):∀m,1≤m→1≤fL t m∧fL t m≤m:=by
 induction t using ag.ind with
 |h ks vs kids ih=>intro m hm;simp only[fL];exact MM kids ih 1 m (by omega) hm
theorem FF (l:List ag) {most:Int} (h:¬n<most):iQ l n most=n:=by
 cases l with
 |nil=>simp only[iQ]
 |cons t ts=>simp only[iQ];rw[if_neg h]
theorem Ck (t:ag):∀(a b c:Value) (most:Int) (w:World),bn w t a b c→1≤most→most≤1000→Calls prog 59 #[.agg #[a,b,c],.int .i64 most] w fun e w'=>e=.returned (.int .i64 (fL t most))∧Bw w w':=by
 induction t using ag.ind with
 |h ks vs kids ih=>
  intro a b c most w hn yM zi;have zh:=aa ih;clear ih;obtain ⟨⟨pa,ca,rfl,_,_,_⟩,⟨pb,cb,rfl,_,_,_⟩,⟨pc,cc,rfl,c1,c2,hk⟩⟩:=bA.1 hn;simp only[ag.keys,ag.vals,ag.kids] at c1 hk ⊢;have HK:=aa hk;clear hk hn;have hlc:=fG (n:=kids.length) c2;clear c1 c2;go_enter func59,ntmps59;go_wp2_with fail;go_loopw [5,6] (fun v i wr=>∃(k:Nat) (n:Int),k≤kids.length∧i=.int .i64 k∧v=.int .i64 n∧1≤n∧n≤most∧fL (.mk ks vs kids) most=iQ (kids.drop k) n most∧gN w.heap.size (.slice pa ks.length ca) (.slice pb vs.length cb) (.slice pc kids.length cc) wr∧Bw w wr) (fun _ i _=>kids.length-(intOf i).toNat)
  case atStart=>exact ⟨0,1,dO,rfl,rfl,by omega,yM,by simp only[fL,List.drop_zero],⟨by simp,by simp,by simp⟩,ar⟩
  case round=>
   obtain ⟨k,n,hk,rfl,rfl,hn1,hn2,Qu,fI,hb⟩:=hrel;have HC:=aa Qu;have HX:=aa fI;have HB:=aa hb;obtain ⟨q0,q1,q2⟩:=fI;have hlx:=World.block_lt_of_cell? _ _ q0;clear Qu hb;by_cases hlt:k<kids.length
   case neg=>
    obtain rfl:k=kids.length:=by omega
    have HF:=aa (show fL (.mk ks vs kids) most=n by rw[HC.o,List.drop_length];simp only[iQ]);go_wp2_with fail;go_ret;exact ⟨kH HF.symm,HB⟩
   have fN:(k:Int)<(kids.length:Int):=(by omega);by_cases hnm:n<most
   case neg=>have HF:=aa (show fL (.mk ks vs kids) most=n by rw[HC.o,FF _ hnm]);go_wp2_with fail;go_ret;exact ⟨kH HF.symm,HB⟩
   obtain ⟨s,hs⟩:=fx (l:=kids) (k:=k) hlt;obtain ⟨g,o,x,y,z,rfl,e1,e2,e3,e4⟩:=HK.o k s hs;have r1:=ae HB e1;have r2:=ae HB e2;have r3:=ae HB e3;have HN:=aa (e4.keep (af HB));have HM:=aa (List.mem_of_getElem? hs);have iL:=MN s (most-n) (by omega);have pB:=aa (show fL (.mk ks vs kids) most=iQ (kids.drop (k+1)) (n+fL s (most-n)) most by
    obtain ⟨hk2,hx⟩:=List.getElem?_eq_some_iff.1 hs;rw[HC.o,List.drop_eq_getElem_cons hk2,hx];simp only[iQ];rw[if_pos hnm])
   obtain ⟨q,hq⟩:=aG (fL s (most-n));rw[hq] at iL pB;have HQ:=aa hq;clear hs e1 e2 e3 e4 hq;go_wp2_with fail;refine (zh s HM x y z (most-n) _ HN (by omega) (by omega)).mono ?_;rintro e w1 ⟨rfl,hb⟩;rw[HQ.o];have aY:=bh HB hb;have aU:=aa (HX.below hb);clear hb;go_wp2_with fail;go_roundw
   case rel=>exact ⟨k+1,n+q,by omega,by go_num,rfl,by omega,by omega,pB.o,aU.o,aY.o⟩
   case measure=>simp[intOf];omega
def pW (t:ag):Bool:=decide (fL t 400<400)&&vg t
theorem JI (t:ag) (a b c:Value) (w:World) (hn:bn w t a b c):Calls prog 58 #[.agg #[a,b,c]] w fun e w'=>e=.returned (.bool (pW t))∧Bw w w':=by
 have fI:Bw w (w.alloc (.cells #[a,b,c] 73)):=ar;have HN:=aa hn;have HB:=aa fI;obtain ⟨⟨pa,ca,rfl,_,_,_⟩,⟨pb,cb,rfl,_,_,_⟩,⟨pc,cc,rfl,_,_,_⟩⟩:=bA.1 hn;clear hn fI;go_enter func58,ntmps58;go_wp2_with fail;refine (Ck t _ _ _ 400 _ (HN.keep (af HB)) (by omega) (by omega)).mono ?_;rintro e w1 ⟨rfl,hb⟩;have aY:=bh HB hb;have aU:=aa (show gN w.heap.size (.slice pa t.keys.length ca) (.slice pb t.vals.length cb) (.slice pc t.kids.length cc) w1 from gN.below ⟨by simp,by simp,by simp⟩ hb);clear hb;obtain ⟨q,hq⟩:=aG (fL t 400);rw[hq];have HQ:=aa hq;clear hq;obtain ⟨q0,q1,q2⟩:=aU.o;have hlx:=World.block_lt_of_cell? _ _ q0;by_cases hlt:q<400
 ·have HF:=aa (show pW t=vg t by unfold pW;rw[HQ.o];simp[hlt])
  go_wp2_with fail;refine (UB t _ _ _ _ (HN.keep (af aY))).mono ?_;rintro e w2 ⟨rfl,hb⟩;have bS:=bh aY hb;clear hb;go_wp2_with fail;go_ret;exact ⟨aN HF.symm,bS⟩
 ·have HF:=aa (show pW t=false by unfold pW;rw[HQ.o];simp;omega)
  go_wp2_with fail;go_ret;exact ⟨aN HF.symm,aY⟩
mutual
def cC:ag→Int→Int
 |.mk _ _ kids,most=>if most=0 then 0 else lg kids (most-1)
def lg:List ag→Int→Int
 |[],_=>1
 |t::ts,m=>if uf ts m (cC t m)=true then (if cC t m=0 then 0 else cC t m+1) else 0
def uf:List ag→Int→Int→Bool
 |[],_,_=>true
 |t::ts,m,d=>decide (cC t m=d)&&uf ts m d
end
theorem nR (m d:Int):∀l:List ag,uf l m d=l.all fun t=>decide (cC t m=d)
 |[]=>by simp only[uf,List.all_nil]
 |t::ts=>by simp only[uf,List.all_cons,nR m d ts]
theorem ug (t:ag):∀m,0≤m→0≤cC t m∧cC t m≤m:=by
 induction t using ag.ind with
 |h ks vs kids ih=>
  intro m hm;simp only[cC]
  split
  ·omega
  ·cases kids with
   |nil=>simp only[lg];omega
   |cons t ts=>
    have:=ih t (by simp) (m-1) (by omega);simp only[lg]
    split
    ·split <;> omega
    ·omega
theorem Qv (t:ag):∀(a b c:Value) (most:Int) (w:World),bn w t a b c→0≤most→most≤1000→Calls prog 205 #[.agg #[a,b,c],.int .i64 most] w fun e w'=>e=.returned (.int .i64 (cC t most))∧Bw w w':=by
 induction t using ag.ind with
 |h ks vs kids ih=>
  intro a b c most w hn yM zi;have zh:=aa ih;clear ih;obtain ⟨⟨pa,ca,rfl,_,_,_⟩,⟨pb,cb,rfl,_,_,_⟩,⟨pc,cc,rfl,c1,c2,hk⟩⟩:=bA.1 hn;simp only[ag.keys,ag.vals,ag.kids] at c1 hk ⊢;have HK:=aa hk;clear hk hn;have hlc:=fG (n:=kids.length) c2;clear c1 c2;have kB:=aa (show Bw w (w.alloc (.cells #[.slice pa ks.length ca,.slice pb vs.length cb,.slice pc kids.length cc] 73)) from ar);by_cases h0:most=0
  ·have HF:=aa (show cC (.mk ks vs kids) most=0 by simp only[cC];rw[if_pos h0])
   have hb0:(most==0)=true:=(by simpa using h0);clear h0;go_enter func205,ntmps205;go_wp2_with fail;go_ret;exact ⟨kH HF.symm,kB⟩
  have hb0:(most==0)=false:=by simpa using h0
  have H0:=aa h0;have UC:1≤most:=by omega
  clear h0;cases kids with
  |nil=>have HF:=aa (show cC (.mk ks vs []) most=1 by simp only[cC,lg];rw[if_neg H0.o]);go_enter func205,ntmps205;go_wp2_with fail;go_ret;exact ⟨kH HF.symm,kB⟩
  |cons t0 ts=>
   have Bz:((t0::ts).length:Int)=(ts.length:Int)+1:=(by simp);obtain ⟨N,hN⟩:∃N:Nat,(t0::ts).length=N:=⟨_,rfl⟩
   have hNp:0<(N:Int):=by rw[List.length_cons] at hN;omega
   have apR:((N:Int)==0)=false:=by rw[beq_eq_false_iff_ne];omega
   rw[hN] at hlc kB ⊢;have ll:=aa hN;clear hN Bz;obtain ⟨g,o,x,y,z,rfl,e1,e2,e3,e4⟩:=HK.o 0 t0 rfl;simp only[Nat.zero_mul,Nat.add_zero] at e1 e2 e3;have r1:=ae kB e1;have r2:=ae kB e2;have r3:=ae kB e3;have Yh:=aa (e4.keep (af kB));have hg:=World.block_lt_of_cell? _ _ e1;clear e4;go_enter func205,ntmps205;go_wp2_with fail;refine (zh t0 (by simp) x y z (most-1) _ Yh (by omega) (by omega)).mono ?_;rintro e w1 ⟨rfl,hb⟩;have hd:=ug t0 (most-1) (by omega);obtain ⟨D,hD⟩:=aG (cC t0 (most-1));rw[hD] at hd ⊢;have HD:=aa hD;clear hD;have aY:=bh kB hb;have aU:=aa (show gN w.heap.size (.slice pa ks.length ca) (.slice pb vs.length cb) (.slice (some ⟨g,o,none⟩) N cc) w1 from gN.below ⟨by simp,by simp,by simp⟩ hb);have HE:=aa (show cC (.mk ks vs (t0::ts)) most=if (ts.all fun s=>decide (cC s (most-1)=D))=true then (if D=0 then 0 else D+1) else 0 by
    simp only[cC,lg,nR,HD.o];rw[if_neg H0.o])
   clear hb e1 e2 e3 r1 r2 r3;have ah7:=World.block_lt_of_cell? _ _ aU.1;obtain ⟨q0,q1,q2⟩:=aU.o;go_wp2_with fail;go_loopw [6] (fun i wr=>∃k:Nat,1≤k∧k≤N∧i=.int .i64 k∧(∀j,1≤j→j<k→∀s,(t0::ts)[j]?=some s→cC s (most-1)=D)∧gN w.heap.size (.slice pa ks.length ca) (.slice pb vs.length cb) (.slice (some ⟨g,o,none⟩) N cc) wr∧Bw w wr) (fun i _=>N-(intOf i).toNat)
   case atStart=>exact ⟨1,aT,by omega,rfl,fun j h1 h2=>by omega,aU,aY⟩
   case round=>
    clear q0 q1 q2 ah7;obtain ⟨k,FH,hk,rfl,hall,fI,hb⟩:=hrel;have HA:=aa hall;have HX:=aa fI;have HB:=aa hb;obtain ⟨q0,q1,q2⟩:=fI;have hlx:=World.block_lt_of_cell? _ _ q0;clear hall hb;by_cases hlt:k<N
    case neg=>
     obtain rfl:k=N:=by omega
     have ed:=aa (show (ts.all fun s=>decide (cC s (most-1)=D))=true from List.all_eq_true.2 (fun s hs=>by
      obtain ⟨j,hj⟩:=List.mem_iff_getElem?.1 hs;have UD:=(List.getElem?_eq_some_iff.1 hj).1;have hNl:=ll.o;rw[List.length_cons] at hNl;exact decide_eq_true (HA.o (j+1) (by omega) (by omega) s (by rw[List.getElem?_cons_succ];exact hj))))
     by_cases hz:D=0
     ·have HF:=aa (show cC (.mk ks vs (t0::ts)) most=0 by rw[HE.o,if_pos ed.o,if_pos hz])
      have hzb:(D==0)=true:=(by simpa using hz);clear hz;go_wp2_with fail;go_ret;exact ⟨kH HF.symm,HB⟩
     ·have HF:=aa (show cC (.mk ks vs (t0::ts)) most=D+1 by rw[HE.o,if_pos ed.o,if_neg hz])
      have hzb:(D==0)=false:=(by simpa using hz);clear hz;go_wp2_with fail;go_ret;exact ⟨kH HF.symm,HB⟩
    have fN:(k:Int)<(N:Int):=(by omega);obtain ⟨s,hs⟩:∃s,(t0::ts)[k]?=some s:=⟨_,List.getElem?_eq_getElem (by rw[ll.o];exact hlt)⟩
    obtain ⟨g',o',x',y',z',hgo,e1,e2,e3,e4⟩:=HK.o k s hs;cases hgo;have r1:=ae HB e1;have r2:=ae HB e2;have r3:=ae HB e3;have HN:=aa (e4.keep (af HB));have HS:=aa hs;have HM:=aa (List.mem_of_getElem? hs);have WV:=ug s (most-1) (by omega);obtain ⟨E,hE⟩:=aG (cC s (most-1));rw[hE] at WV;have HEE:=aa hE;clear hs e1 e2 e3 e4 hE;by_cases hed:E=D
    ·have hne:(E != D)=false:=by simpa using hed
     have HED:=aa hed;clear hed;go_wp2_with fail;refine (zh s HM x' y' z' (most-1) _ HN (by omega) (by omega)).mono ?_;rintro e w2 ⟨rfl,hb⟩;rw[HEE.o];have bS:=bh HB hb;have dV:=aa (HX.below hb);clear hb;go_wp2_with fail;go_roundw
     case rel=>
      refine ⟨k+1,by omega,by omega,by go_num,fun j h1 h2 s' nM=>?_,dV.o,bS.o⟩;by_cases e:j=k
      ·subst e;rw[HS.o] at nM;cases nM;rw[HEE.o];exact HED.o
      ·exact HA j h1 (by omega) s' nM
     case measure=>simp[intOf];omega
    ·have hne:(E != D)=true:=by simpa using hed
     have HF:=aa (show cC (.mk ks vs (t0::ts)) most=0 by
      obtain ⟨j,rfl⟩:∃j,k=j+1:=⟨k-1,by omega⟩
      have hsm:=HS.o;rw[List.getElem?_cons_succ] at hsm;rw[HE.o,if_neg];intro hall;have:=List.all_eq_true.1 hall s (List.mem_of_getElem? hsm);rw[HEE.o] at this;exact hed (by simpa using this))
     clear hed;go_wp2_with fail;refine (zh s HM x' y' z' (most-1) _ HN (by omega) (by omega)).mono ?_;rintro e w2 ⟨rfl,hb⟩;rw[HEE.o];have bS:=bh HB hb;clear hb;go_wp2_with fail;go_ret;exact ⟨kH HF.symm,bS⟩
theorem dM (w:World) (base:Nat) (t ty e:TypeId) (i:TypeInfo) (z:Value) (size bytes:Nat) (ht:P.underlying t=some (.slice e)) (hi:P.info? e=some i) (hz:i.zero=some z)
 (hsize:i.size=size) (hby:i.bytes=bytes) (hzs:z.cells.size=size) (hsz:0<size) (v:Value) (n:Nat) (xs:List Value) (hown:w.ownsRow base e size v n xs)
 (p:Option Addr) (m c:Nat) (news:List Value) (jh:iK w p m size news) (hc:p=none→c=0) (h63:n+m≤maxLen) (hbytes:(n+m)*bytes≤140737488355328) (hbase:base≤w.heap.size) :
 ∃v' w',(Builtin.append_ #[t,t] ty #[v,.slice p m c]).run P w=.ok v' w'∧w'.ownsRow base e size v' (n+m) (xs++news)∧w.grownBy w' v.ownBlock:=by
 cases p with
 |none=>obtain rfl:=jh.2.1 rfl;obtain rfl:=hc rfl;obtain rfl:news=[]:=List.eq_nil_of_length_eq_zero (by have:=jh.1;simpa using this);exact ⟨v,w,run_append_owned_none (P:=P) (w:=w) base t ty e i size ht hi v n xs hown,by simpa using hown,ko _ _⟩
 |some a=>obtain ⟨v',w',h1,h2,h3,_⟩:=run_append_own_at (P:=P) w base t ty e i z size bytes ht hi hz hsize hby hzs hsz v n xs hown a m c news jh.1 (jh.2.2.2 a rfl) jh.2.2.1 h63 hbytes hbase;exact ⟨v',w',h1,h2,h3⟩
abbrev ay:=Int×Int
def DX (p:ay):List Value:=[.int .i64 p.1,.int .i64 p.2]
def bJ (l:List ay):List (List Value):=l.map DX
theorem nC (l:List ay) (p:ay):(bJ (l++[p])).flatten=(bJ l).flatten++[.int .i64 p.1,.int .i64 p.2]:=by unfold bJ;rw[List.map_append,List.flatten_append];rfl
theorem DY (a b:List ay):(bJ (a++b)).flatten=(bJ a).flatten++(bJ b).flatten:=by unfold bJ;rw[List.map_append,List.flatten_append]
theorem DZ (l:List ay):∀u∈(bJ l).flatten,u.oneCell'=true:=by intro u hu;unfold bJ at hu;rw[List.mem_flatten] at hu;obtain ⟨r,hr,hu⟩:=hu;rw[List.mem_map] at hr;obtain ⟨p,_,rfl⟩:=hr;simp only[DX,List.mem_cons,List.not_mem_nil,or_false] at hu;rcases hu with rfl|rfl <;> rfl
mutual
def aA:ag→List ay
 |.mk ks vs kids=>(if kids.length=0 then ks.zip vs else [])++bP kids
def bP:List ag→List ay
 |[]=>[]
 |t::ts=>aA t++bP ts
end
theorem bW:∀l:List ag,bP l=(l.map aA).flatten
 |[]=>by simp only[bP,List.map_nil,List.flatten_nil]
 |t::ts=>by simp only[bP,List.map_cons,List.flatten_cons,bW ts]
theorem pX {l:List ag} {s:ag} (h:l[k]?=some s):bP (l.take (k+1))=bP (l.take k)++aA s:=by obtain ⟨hk,rfl⟩:=List.getElem?_eq_some_iff.1 h;rw[List.take_succ_eq_append_getElem hk,bW,bW,List.map_append,List.flatten_append];simp
theorem FI {a b:List Int} {x y:Int} (ha:a[k]?=some x) (hb:b[k]?=some y):(a.zip b).take (k+1)=(a.zip b).take k++[(x,y)]:=by
 have hz:(a.zip b)[k]?=some (x,y):=by rw[List.getElem?_zip_eq_some];exact ⟨ha,hb⟩
 obtain ⟨hk,e⟩:=List.getElem?_eq_some_iff.1 hz;rw[List.take_succ_eq_append_getElem hk,e]
theorem FJ:(prog.info? 82).map (fun i=>(i.zero,i.size,i.bytes))=some (some (.agg #[.int .i64 0,.int .i64 0]),2,16):=by kernel_rfl
theorem kp {e:TypeId} {size n:Nat} {xs:List Value} (h:W.ownsRow B e size v n xs) (hb:Bw W W'):W'.ownsRow B e size v n xs:=
 h.kept (row:=none) ⟨hb.os,hb.tape,hb.output,hb.size,fun k hk _=>hb.block k hk⟩ (Classical.or_iff_not_imp_left.2 fun h=>h)
theorem Qw {n:Nat} {l:List ay} (h:w.ownsRow B 82 2 v n (bJ l).flatten):∃p c,v=.slice p n c∧(p=none→c=0)∧iK w p n 2 (bJ l).flatten:=by
 obtain ⟨p,c,hv,_,_,hs⟩:=Yg h (DZ l);refine ⟨p,c,hv,fun hp=>?_,hs⟩;subst hp;rcases aJ h with ⟨h1,_,_⟩|⟨g,cap,h1⟩
 ·rw[hv] at h1;injection h1 with _ _ h3
 ·rw[hv] at h1;injection h1 with h2;cases h2
theorem gN.grown {b:Nat} {row:Option Nat} (h:gN b x y z W) (hg:W.grownBy W' row) (hne:some b≠row):gN b x y z W':=⟨hg.cell h.1 hne,hg.cell h.2.1 hne,hg.cell h.2.2 hne⟩
def ah9 (w:World) (bx:Value×Value×Value) (kids:List ag) (v i:Value) (wr:World):Prop:=
 ∃(k:Nat) (vv:Value),vv=v∧k≤kids.length∧i=.int .i64 k∧wr.ownsRow (w.heap.size+1) 82 2 v (bP (kids.take k)).length (bJ (bP (kids.take k))).flatten∧gN w.heap.size bx.1 bx.2.1 bx.2.2 wr∧Bw w wr
theorem FK (l:List ag) (k:Nat):(bP (l.take k)).length≤(bP l).length:=by
 have:bP l=bP (l.take k)++bP (l.drop k):=by rw[bW,bW,bW,← List.flatten_append,← List.map_append,List.take_append_drop]
 rw[this,List.length_append];omega
theorem zj :∀j u,[x,y][j]?=some u→(W.alloc (.cells #[x,y] 82)).cell? ((⟨W.heap.size,0,none⟩:Addr).add j)=some u:=by
 intro j u hu;rw[jM,World.cell?_alloc_at _ _ _ _ rfl];rcases j with _|_|j
 ·exact hu
 ·exact hu
 ·simp at hu
theorem MO {K:Act→World→Prop} {E:Prop} {s1 s2:Nat} {xs:List Value} {x y:Int}
 (hg:o.guard=none) (ho:o.op=.call {callee:=.builtin .append,args := #[.tmp s1,.tmp s2],argTypes := #[76,76]})
 (hs:a.eval (.tmp s1)=v) (hx:a.eval (.tmp s2)=.slice (some ⟨W.heap.size,0,none⟩) 1 1) (hown:W.ownsRow B 82 2 v k xs) (hk:k≤1000000) (hB:B≤W.heap.size)
 (h:∀g cap w',w'.ownsRow B 82 2 (.slice (some ⟨g,0,none⟩) (k+1) cap) (k+1) (xs++[.int .i64 x,.int .i64 y])→(W.alloc (.cells #[.int .i64 x,.int .i64 y] 82)).grownBy w' v.ownBlock→K (a.put o.dst (.slice (some ⟨g,0,none⟩) (k+1) cap)) w') :
 if Region.wanted o (yielded ops a.tmps)=true then Oper.wp prog o a (W.alloc (.cells #[.int .i64 x,.int .i64 y] 82)) K Q else E:=by
 obtain ⟨i0,iM,hz0,hz1,hz2⟩:=info_parts FJ;exact step_append_lies _ hg (.tmp s1) (.tmp s2) 76 ho B 82 i0 (.agg #[.int .i64 0,.int .i64 0]) 2 16 underlying76 iM hz0 hz1 hz2 rfl (by decide) v k xs hs (World.ownsRow.alloc hown _) ⟨W.heap.size,0,none⟩ 1 1 [.int .i64 x,.int .i64 y] hx rfl zj (by intro u hu;simp only[List.mem_cons,List.not_mem_nil,or_false] at hu;rcases hu with rfl|rfl <;> rfl) Nat.one_pos
  (by unfold maxLen;omega) (by omega) (by simp;omega) (W.heap.size+1) (by simp) (fun g cap w' h1 h2 _ _=>h g cap w' h1 h2)
theorem kq (t:ag):∀(a b c:Value) (w:World),bn w t a b c→(aA t).length≤1000000→Calls prog 43 #[.agg #[a,b,c]] w fun e w'=>∃v',e=.returned v'∧w'.ownsRow w.heap.size 82 2 v' (aA t).length (bJ (aA t)).flatten∧Bw w w':=by
 induction t using ag.ind with
 |h ks vs kids ih=>
  intro a b c w hn hlen;have zh:=aa ih;clear ih;obtain ⟨⟨pa,ca,rfl,a1,a2,ha⟩,⟨pb,cb,rfl,b1,b2,MP⟩,⟨pc,cc,rfl,c1,c2,hk⟩⟩:=bA.1 hn;simp only[ag.keys,ag.vals,ag.kids] at a1 b1 c1 ha MP hk ⊢;have HK:=aa hk;have HA:=aa ha;have HV:=aa MP;clear hk hn ha MP;have hlc:=fG (n:=kids.length) c2;obtain ⟨i0,hi,hz0,hz1,hz2⟩:=info_parts FJ;clear c1 c2;have HLEN:=aa hlen;clear hlen;cases hkc:kids with
  |nil=>
   subst hkc;have UE:=aa (show aA (.mk ks vs [])=ks.zip vs by simp only[aA,bP];simp);have hzl:(ks.zip vs).length≤1000000:=by rw[← UE.o];exact HLEN.o
   have hzm:(ks.zip vs).length≤ks.length∧(ks.zip vs).length≤vs.length∧(ks.length≤(ks.zip vs).length∨vs.length≤(ks.zip vs).length):=by rw[List.length_zip];omega
   obtain ⟨Z,hZ⟩:=aG ((ks.zip vs).length);rw[hZ] at hzl hzm;have HZ:=aa hZ;clear hZ;have hla:=fG (n:=ks.length) a2;have hlb:=fG (n:=vs.length) b2;clear a1 b1 a2 b2 hlc;go_enter func43,ntmps43;go_wp2_with fail;go_loopw [3,4] (fun v i wr=>∃(k:Nat) (vv:Value),vv=v∧k≤Z∧i=.int .i64 k∧wr.ownsRow (w.heap.size+1) 82 2 v ((ks.zip vs).take k).length (bJ ((ks.zip vs).take k)).flatten∧gN w.heap.size (.slice pa ks.length ca) (.slice pb vs.length cb) (.slice pc 0 cc) wr∧Bw w wr) (fun _ i _=>Z-(intOf i).toNat)
   case atStart=>
    refine ⟨0,_,rfl,dO,rfl,?_,⟨by simp,by simp,by simp⟩,(ar).alloc (by simp) _⟩;have:=World.ownsRow_made (w.alloc (.cells #[.slice pa ks.length ca,.slice pb vs.length cb,.slice pc 0 cc] 73)) #[] 0 (base:=w.heap.size+1) (e:=82) (size:=2) (by simp) (by unfold maxLen;omega) rfl
    simpa [bJ] using this
   case round=>
    obtain ⟨k,vv,Yi,hk,rfl,hown,fI,hb⟩:=hrel;subst Yi;have HO:=aa hown;have HX:=aa fI;have HB:=aa hb;obtain ⟨q0,q1,q2⟩:=fI;have hlx:=World.block_lt_of_cell? _ _ q0;clear hown hb;by_cases hlt:k<Z
    case neg=>
     obtain rfl:k=Z:=by omega
     have kI:=aa (show wr.ownsRow w.heap.size 82 2 vv (aA (.mk ks vs [])).length (bJ (aA (.mk ks vs []))).flatten by
      have:=HO.o;rw[List.take_of_length_le (by rw[HZ.o];exact aT)] at this;rw[UE.o];exact bz (by omega) this)
     have hc:(¬(k:Int)<(ks.length:Int))∨((k:Int)<(ks.length:Int)∧¬(k:Int)<(vs.length:Int)):=(by omega);rcases hc with h1|⟨h1,h2⟩
     all_goals
      go_wp2_with fail;go_loopw [3,5] (fun v i w'=>vv=v∧i=.int .i64 0∧wr=w') (fun _ _ _=>0)
      case atStart=>exact ⟨rfl,rfl,rfl⟩
      case round=>obtain ⟨rfl,rfl,rfl⟩:=hrel;go_wp2_with fail;go_ret;exact ⟨_,rfl,kI,HB⟩
    have hka:(k:Int)<(ks.length:Int):=(by omega);have hkb:(k:Int)<(vs.length:Int):=by omega
    have aia:(0:Int)≤(k:Int):=(by omega);obtain ⟨x,hx⟩:=fx (l:=ks) (k:=k) (by omega);obtain ⟨y,hy⟩:=fx (l:=vs) (k:=k) (by omega);obtain ⟨_,ga,oa,rfl,BA⟩:=HA.o k x hx;obtain ⟨_,gb,ob,rfl,BL⟩:=HV.o k y hy;have hga:=World.block_lt_of_cell? _ _ BA;have hgb:=World.block_lt_of_cell? _ _ BL;have Qx:=aa (show ∀b,b<w.heap.size+1→some b≠vv.ownBlock from fun b hb e=>by have:=(HO.lt _ e.symm).1;omega);have rx:=ae HB BA;have ry:=ae HB BL;have yn:=aa (FI hx hy);have vh:((ks.zip vs).take k).length≤1000000:=by rw[List.length_take];omega
    have HO0:=HO;clear HO;obtain ⟨L,hL⟩:=aG ((ks.zip vs).take k);rw[hL] at vh yn HO0;have HLQ:=aa hL;clear hL;have HO:=HO0;have vn:=aa vh;have HOD:=aa (kp HO aH.drew);have fJ:=aa (show w.heap.size+1≤wr.drew.heap.size from hlx);clear hx hy BA BL vh;go_wp2_with fail;go_region_held3 (fun w'=>w'.cell? ⟨w.heap.size,0,none⟩=some (.slice (some ⟨ga,oa,none⟩) ks.length ca)∧w'.cell? ⟨w.heap.size,1,none⟩=some (.slice (some ⟨gb,ob,none⟩) vs.length cb)∧w'.cell? ⟨ga,oa+k,none⟩=some (.int .i64 x)∧w'.cell? ⟨gb,ob+k,none⟩=some (.int .i64 y))
     (first|exact ⟨q0,q1,rx,ry⟩|exact ⟨ae (ar) q0,ae (ar) q1,ae (ar) rx,ae (ar) ry⟩|exact UF.o)
     ((refine MO rfl rfl rfl rfl HOD.o vn.o fJ.o ?_;intro gg cap w1 hown1 vq;have HG:=aa vq;have UF:=aa (And.intro (vq.cell (ae (ar) (show wr.drew.cell? _=_ from q0)) (Qx.o w.heap.size (by omega))) (And.intro (vq.cell (ae (ar) (show wr.drew.cell? _=_ from q1)) (Qx.o w.heap.size (by omega))) (And.intro (vq.cell (ae (ar) (show wr.drew.cell? _=_ from rx)) (Qx.o ga (by omega))) (vq.cell (ae (ar) (show wr.drew.cell? _=_ from ry)) (Qx.o gb (by omega))))))))
    have aU:=aa ((gN.below (show gN w.heap.size (.slice (some ⟨ga,oa,none⟩) ks.length ca) (.slice (some ⟨gb,ob,none⟩) vs.length cb) (.slice pc 0 cc) wr.drew from HX) (ar)).grown HG (Qx w.heap.size (by omega)));have aY:=aa ((HB.drew.alloc (show w.heap.size≤wr.drew.heap.size from HB.size) _).grown HG (by simp;have:=HB.size;omega) (fun q e=>by have:=(HO.lt q e).1;omega));have LS:=aa hown1;clear hown1 vq;go_wp2_with fail;go_roundw
    case rel=>refine ⟨k+1,_,rfl,by omega,by go_num,?_,aU.o,aY.o⟩;rw[yn.o,nC,List.length_append];exact LS.o
    case measure=>simp[intOf];omega
  |cons t0 ts=>
   have HKC:=aa (show kids.length≠0 by rw[hkc];simp);rw[← hkc];clear hkc;have UE:=aa (show aA (.mk ks vs kids)=bP kids by simp only[aA];rw[if_neg HKC.o,List.nil_append]);have MQ:((kids.length:Int)==0)=false:=by rw[beq_eq_false_iff_ne];have:=HKC.o;omega
   go_enter func43,ntmps43;go_wp2_with fail;go_loopw [3,5] (fun v i wr=>ah9 w (.slice pa ks.length ca,.slice pb vs.length cb,.slice pc kids.length cc) kids v i wr) (fun _ i _=>kids.length-(intOf i).toNat)
   case atStart=>
    refine ⟨0,_,rfl,dO,rfl,?_,⟨by simp,by simp,by simp⟩,(ar).alloc (by simp) _⟩;have:=World.ownsRow_made (w.alloc (.cells #[.slice pa ks.length ca,.slice pb vs.length cb,.slice pc kids.length cc] 73)) #[] 0 (base:=w.heap.size+1) (e:=82) (size:=2) (by simp) (by unfold maxLen;omega) rfl
    simpa [bP,bJ] using this
   case round=>
    obtain ⟨k,vv,Yi,hk,rfl,hown,fI,hb⟩:=hrel;subst Yi;have HO:=aa hown;have HX:=aa fI;have HB:=aa hb;obtain ⟨q0,q1,q2⟩:=fI;simp only at q0 q1 q2;have hlx:=World.block_lt_of_cell? _ _ q0;clear hown hb;by_cases hlt:k<kids.length
    case neg=>
     obtain rfl:k=kids.length:=by omega
     go_wp2_with fail;go_ret;refine ⟨_,rfl,?_,HB⟩;have:=HO.o;rw[List.take_length] at this;rw[UE.o];exact bz (by omega) this
    have fN:(k:Int)<(kids.length:Int):=(by omega);obtain ⟨s,hs⟩:=fx (l:=kids) (k:=k) hlt;obtain ⟨g,o,x,y,z,rfl,e1,e2,e3,e4⟩:=HK.o k s hs;have r1:=ae HB e1;have r2:=ae HB e2;have r3:=ae HB e3;have HN:=aa (e4.keep (af HB));have HM:=aa (List.mem_of_getElem? hs);have hsn:=pX hs;have hmo:=FK kids (k+1);have WW:=HLEN.o;rw[UE.o] at WW;rw[hsn,List.length_append] at hmo;have wV:(aA s).length≤1000000:=by omega
    have vh:(bP (kids.take k)).length+(aA s).length≤1000000:=(by omega);have yn:=aa hsn;have vn:=aa vh;clear hs e1 e2 e3 e4 hsn hmo WW vh;go_wp2_with fail;refine (zh s HM x y z _ HN wV).mono ?_;rintro e w1 ⟨v1,rfl,hrow,hb1⟩;obtain ⟨p1,n1,hv1,WX,jh⟩:=Qw hrow;subst hv1;have LS:=aa (kp HO hb1);have aU:=aa (HX.below hb1);have aY:=bh HB hb1;obtain ⟨v2,w2,hrun,hown2,hg2⟩:=dM (P:=prog) w1 (w.heap.size+1) 76 76 82 i0 (.agg #[.int .i64 0,.int .i64 0]) 2 16 underlying76 hi hz0 hz1 hz2 rfl (by decide) vv _ _ LS p1 (aA s).length n1 _ jh WX (by have:=vn.o;unfold maxLen;omega) (by have:=vn.o;omega) (by have:=aY.size;have:=hb1.size;omega);have HR:=aa hrun;have nD:=aa hown2;have dV:=aa (aU.grown hg2 (fun e=>by have:=(LS.lt _ e.symm).1;omega));have bS:=aa (aY.grown hg2 aY.size (fun k e=>by have:=(LS.lt k e).1;omega));clear hrow hb1 jh WX hrun hown2 hg2;go_wp2_with (at_builtin;refine Lib.wpList_append_run _ rfl _ _ _ _ rfl _ _ rfl rfl _ _ HR.o ?_);go_roundw
    case rel=>refine ⟨k+1,_,rfl,by omega,by go_num,?_,dV.o,bS.o⟩;rw[yn.o,List.length_append,DY];exact nD.o
    case measure=>simp[intOf];omega
mutual
def bE:ag→Int→Bool
 |.mk ks vs kids,low=>decide (low≤ks.length∧ks.length≤4)&&(if kids.length=0 then decide (vs.length=ks.length) else decide (vs.length=0∧kids.length=ks.length∧2≤ks.length)&&oK kids ks)
def oK:List ag→List Int→Bool
 |[],_=>true
 |t::ts,ks=>(bE t 2&&decide (t.keys.head?=ks.head?))&&oK ts ks.tail
end
theorem eT:∀(l:List ag) (ks:List Int),oK l ks=true↔∀(j:Nat) (t:ag),l[j]?=some t→bE t 2=true∧t.keys.head?=ks[j]?
 |[],ks=>by simp[oK]
 |t::ts,ks=>by
  simp only[oK,Bool.and_eq_true,decide_eq_true_eq,eT ts ks.tail];constructor
  ·rintro ⟨⟨h1,h2⟩,h3⟩ j s hj
   cases j with
   |zero=>simp only[List.getElem?_cons_zero,Option.some.injEq] at hj;subst hj;exact ⟨h1,by rw[h2];cases ks <;> rfl⟩
   |succ j=>rw[List.getElem?_cons_succ] at hj;have:=h3 j s hj;exact ⟨this.1,by rw[this.2];cases ks <;> rfl⟩
  ·intro h
   have h0:=h 0 t rfl;refine ⟨⟨h0.1,by rw[h0.2];cases ks <;> rfl⟩,fun j s hj=>?_⟩;have:=h (j+1) s (by rw[List.getElem?_cons_succ];exact hj);exact ⟨this.1,by rw[this.2];cases ks <;> rfl⟩
abbrev MR:=Bool×Int
def gW:List Int→MR→Option MR
 |[],s=>some s
 |k::ks,s=>if s.1=true∧k≤s.2 then none else gW ks (true,k)
theorem vr:∀(a b:List Int) (s:MR),gW (a++b) s=(gW a s).bind (gW b)
 |[],b,s=>by simp only[List.nil_append,gW,Option.bind_some]
 |k::a,b,s=>by
  simp only[List.cons_append,gW]
  split
  ·rfl
  ·exact vr a b _
abbrev vw:=Int×MR
def lV (ks vs:List Int) (depth:Int) (s:vw):Option vw:=
 if vs.length=ks.length∧(s.1=0∨s.1=depth) then (gW ks s.2).map fun q=>(depth,q) else none
mutual
def ig:ag→Int→vw→Option vw
 |.mk ks vs kids,depth,s=>
  if depth>40∨ks.length>4∨(depth>1∧ks.length<2) then none
  else if kids.length=0 then lV ks vs depth s
  else if vs.length≠0∨kids.length≠ks.length∨kids.length<2 then none
  else jx kids ks depth s
def jx:List ag→List Int→Int→vw→Option vw
 |[],_,_,s=>some s
 |t::ts,ks,depth,s=>if t.keys.length=0∨t.keys.head?≠ks.head? then none else
  match ig t (depth+1) s with
  |none=>none
  |some s'=>jx ts ks.tail depth s'
end
def dS (t:ag):List Int:=(aA t).map Prod.fst
def uh (l:List ag):List Int:=(bP l).map Prod.fst
theorem zk (t:ag) (ts:List ag):uh (t::ts)=dS t++uh ts:=by unfold uh dS;simp only[bP,List.map_append]
def ui (depth:Int):Int:=if depth>1 then 2 else 0
def D4 (t:ag) (depth:Int) (s s':vw):Prop:=
 cC t (41-depth)≠0∧bE t (ui depth)=true∧s'.1=depth+cC t (41-depth)-1∧(s.1=0∨s.1=s'.1)∧gW (dS t) s.2=some s'.2
def JJ (ts:List ag) (ks:List Int) (depth:Int) (s s':vw):Prop:=
 (∀(j:Nat) (t:ag),ts[j]?=some t→cC t (40-depth)≠0∧bE t 2=true∧t.keys.head?=ks[j]?∧s'.1=depth+cC t (40-depth))∧(s.1=s'.1∨(s.1=0∧ts≠[]))∧gW (uh ts) s.2=some s'.2
theorem Cl (h:bE t 2=true):2≤t.keys.length:=by
 cases t with
 |mk ks vs kids=>simp only[bE,Bool.and_eq_true,decide_eq_true_eq] at h;simp only[ag.keys];omega
theorem MS (ts:List ag) (hts:∀t∈ts,∀depth,1≤depth→depth≤41→∀s s',ig t depth s=some s'↔D4 t depth s s') :
 ∀(ks:List Int) (depth:Int) (s s':vw),1≤depth→depth≤40→(jx ts ks depth s=some s'↔JJ ts ks depth s s'):=by
 induction ts with
 |nil=>
  intro ks depth s s' _ _;simp only[jx,JJ,Option.some.injEq];constructor
  ·rintro rfl;exact ⟨fun j t h=>by simp at h,.inl rfl,rfl⟩
  ·rintro ⟨_,h1,h2⟩
   rcases h1 with h1|⟨_,h1⟩
   ·have Cm:s.2=s'.2:=by simpa [uh,bP,gW] using h2
    exact Prod.ext h1 Cm
   ·exact absurd rfl h1
 |cons t ts ih=>
  intro ks depth s s' h1 h2;have iht:=hts t (by simp) (depth+1) (by omega) (by omega);have ihs:=ih (fun u hu=>hts u (by simp[hu]));have e41:41-(depth+1)=40-depth:=by omega
  have Qy:ui (depth+1)=2:=by unfold ui;rw[if_pos (by omega)]
  simp only[jx];constructor
  ·intro h
   split at h
   ·exact absurd h (by simp)
   rename_i hk;have hk2:t.keys.head?=ks.head?:=by
    by_cases e:t.keys.head?=ks.head?
    ·exact e
    ·exact absurd (Or.inr e) hk
   cases hn:ig t (depth+1) s with
   |none=>rw[hn] at h;exact absurd h (by simp)
   |some m=>
    rw[hn] at h;simp only at h;obtain ⟨a1,a2,a3,a4,a5⟩:=(iht s m).1 hn;obtain ⟨b1,b2,b3⟩:=(ihs ks.tail depth m s' h1 h2).1 h;rw[e41] at a1 a3;rw[Qy] at a2;have em:m.1=s'.1:=by
     rcases b2 with b2|⟨b2,_⟩
     ·exact b2
     ·have:=ug t (40-depth) (by omega);omega
    refine ⟨fun j u hj=>?_,?_,?_⟩
    ·cases j with
     |zero=>simp only[List.getElem?_cons_zero,Option.some.injEq] at hj;subst hj;exact ⟨a1,a2,by rw[hk2];cases ks <;> rfl,by omega⟩
     |succ j=>rw[List.getElem?_cons_succ] at hj;have:=b1 j u hj;exact ⟨this.1,this.2.1,by rw[this.2.2.1];cases ks <;> rfl,this.2.2.2⟩
    ·rcases a4 with a4|a4
     ·exact .inr ⟨a4,by simp⟩
     ·exact .inl (by omega)
    ·rw[zk,vr,a5];exact b3
  ·rintro ⟨g1,g2,g3⟩
   have g0:=g1 0 t rfl;rw[if_neg (by
    rintro (e|e)
    ·have:=Cl g0.2.1;omega
    ·exact e (by rw[g0.2.2.1];cases ks <;> rfl))]
   rw[zk,vr] at g3;cases hq:gW (dS t) s.2 with
   |none=>rw[hq] at g3;exact absurd g3 (by simp)
   |some q=>
    rw[hq] at g3;have hn:ig t (depth+1) s=some (s'.1,q):=(iht s (s'.1,q)).2 ⟨by rw[e41];exact g0.1,by rw[Qy];exact g0.2.1,by rw[e41];have:=g0.2.2.2;simp only;omega,by
     rcases g2 with g2|⟨g2,_⟩
     ·exact .inr g2
     ·exact .inl g2,hq⟩
    rw[hn];simp only;refine (ihs ks.tail depth _ s' h1 h2).2 ⟨fun j u hj=>?_,.inl rfl,g3⟩;have:=g1 (j+1) u (by rw[List.getElem?_cons_succ];exact hj);exact ⟨this.1,this.2.1,by rw[this.2.2.1];cases ks <;> rfl,this.2.2.2⟩
theorem MT (t:ag):∀depth,1≤depth→depth≤41→∀s s',ig t depth s=some s'↔D4 t depth s s':=by
 induction t using ag.ind with
 |h ks vs kids ih=>
  intro depth h1 h2 s s';have FL:=MS kids ih;simp only[ig,D4,bE,cC];by_cases h41:depth=41
  ·subst h41
   rw[if_pos (by omega),if_pos (by omega)];simp
  rw[if_neg (show ¬(41-depth=0) by omega)];have Qy:(depth>1∧ks.length<2)↔¬ui depth≤(ks.length:Int):=by unfold ui;split <;> omega
  by_cases hb:depth>40∨ks.length>4∨(depth>1∧ks.length<2)
  ·rw[if_pos hb]
   have:decide (ui depth≤(ks.length:Int)∧ks.length≤4)=false:=by
    rw[decide_eq_false_iff_not];rintro ⟨c1,c2⟩;rcases hb with hb|hb|hb
    ·omega
    ·omega
    ·exact Qy.1 hb c1
   simp[this]
  rw[if_neg hb];have hT:decide (ui depth≤(ks.length:Int)∧ks.length≤4)=true:=by
   rw[decide_eq_true_eq];refine ⟨?_,by omega⟩;by_cases hl:ui depth≤(ks.length:Int)
   ·exact hl
   ·exact absurd (.inr (.inr (Qy.2 hl))) hb
  rw[hT,Bool.true_and];cases kids with
  |nil=>
   simp only[List.length_nil,if_true,lg,lV];have hz:vs.length=ks.length→dS (.mk ks vs [])=ks:=by intro h;unfold dS;simp only[aA,bP,List.length_nil,if_true,List.append_nil];exact List.map_fst_zip (by omega)
   by_cases hv:vs.length=ks.length
   ·rw[hz hv,decide_eq_true hv]
    by_cases hs:s.1=0∨s.1=depth
    ·rw[if_pos ⟨hv,hs⟩]
     cases hq:gW ks s.2 with
     |none=>simp
     |some q=>
      simp only[Option.map_some,Option.some.injEq,ne_eq,true_and];constructor
      ·rintro rfl;exact ⟨by omega,by omega,by rcases hs with hs|hs <;> simp[hs],rfl⟩
      ·rintro ⟨_,c1,c2,c3⟩;exact Prod.ext (by simp only;omega) c3
    ·rw[if_neg (fun c=>hs c.2)]
     constructor
     ·intro h;exact absurd h (by simp)
     ·rintro ⟨_,_,c1,c2,c3⟩;exact absurd (show s.1=0∨s.1=depth by omega) hs
   ·rw[if_neg (fun c=>hv c.1),decide_eq_false hv];simp
  |cons t ts=>
   rw[if_neg (by simp),if_neg (show ¬(t::ts).length=0 by simp)];by_cases hc:vs.length≠0∨(t::ts).length≠ks.length∨(t::ts).length<2
   ·rw[if_pos hc,decide_eq_false (by omega)];simp
   rw[if_neg hc,decide_eq_true (by omega),Bool.true_and,FL ks depth s s' h1 (by omega)];have e40:41-depth-1=40-depth:=by omega
   have WY:dS (.mk ks vs (t::ts))=uh (t::ts):=by unfold dS uh;simp only[aA];rw[if_neg (by simp),List.nil_append]
   rw[WY,e40,eT];simp only[lg,nR,JJ];have Qz:=ug t (40-depth) (by omega);constructor
   ·rintro ⟨c1,c2,c3⟩
    have c0:=c1 0 t rfl;have hall:(ts.all fun u=>decide (cC u (40-depth)=cC t (40-depth)))=true:=List.all_eq_true.2 fun u hu=>by obtain ⟨j,hj⟩:=List.mem_iff_getElem?.1 hu;have:=c1 (j+1) u (by rw[List.getElem?_cons_succ];exact hj);exact decide_eq_true (by omega)
    rw[if_pos hall,if_neg c0.1];exact ⟨by omega,fun j u hj=>⟨(c1 j u hj).2.1,(c1 j u hj).2.2.1⟩,by omega,by rcases c2 with c2|⟨c2,_⟩ <;> simp[c2],c3⟩
   ·rintro ⟨c1,c2,c3,c4,c5⟩
    split at c1
    ·rename_i hall
     rw[if_pos hall] at c3
     split at c1
     ·exact absurd rfl c1
     ·rename_i hne
      rw[if_neg hne] at c3;refine ⟨fun j u hj=>?_,by rcases c4 with c4|c4 <;> simp[c4],c5⟩;have hu:cC u (40-depth)=cC t (40-depth):=by
       cases j with
       |zero=>simp only[List.getElem?_cons_zero,Option.some.injEq] at hj;rw[hj]
       |succ j=>rw[List.getElem?_cons_succ] at hj;exact of_decide_eq_true (List.all_eq_true.1 hall u (List.mem_of_getElem? hj))
      exact ⟨by rw[hu];exact hne,(c2 j u hj).1,(c2 j u hj).2,by omega⟩
    ·exact absurd rfl c1
def jy (l:List ay):Bool:=(gW (l.map Prod.fst) (false,0)).isSome
def jN (t:ag):Bool:=decide (cC t 40≠0)&&bE t 0&&jy (aA t)
theorem MU (t:ag):(ig t 1 (0,(false,0))).isSome=jN t:=by
 have h:=MT t 1 (by omega) (by omega) (0,(false,0));unfold D4 at h;simp only[show (41:Int)-1=40 from rfl,show ui 1=0 from rfl] at h;rw[Bool.eq_iff_iff,Option.isSome_iff_exists];unfold jN jy;simp only[Bool.and_eq_true,decide_eq_true_eq,Option.isSome_iff_exists];constructor
 ·rintro ⟨s',hs⟩
  have:=(h s').1 hs;exact ⟨⟨this.1,this.2.1⟩,s'.2,this.2.2.2.2⟩
 ·rintro ⟨⟨h1,h2⟩,q,h3⟩
  exact ⟨(1+cC t 40-1,q),(h (1+cC t 40-1,q)).2 ⟨h1,h2,by simp only,by simp,h3⟩⟩
theorem Cn:∀(l:List Int) (s:MR),(gW l s).isSome=true↔(∀i x y,l[i]?=some x→l[i+1]?=some y→x<y)∧(s.1=true→∀x,l[0]?=some x→s.2<x)
 |[],s=>by simp[gW]
 |k::ks,s=>by
  simp only[gW]
  split
  ·rename_i h
   constructor
   ·intro h2;exact absurd h2 (by simp)
   ·rintro ⟨_,h2⟩;have:=h2 h.1 k rfl;omega
  ·rename_i h
   rw[Cn ks];constructor
   ·rintro ⟨h1,h2⟩
    refine ⟨fun i x y hx hy=>?_,fun hs x hx=>?_⟩
    ·cases i with
     |zero=>simp only[List.getElem?_cons_zero,Option.some.injEq] at hx;subst hx;exact h2 rfl y (by simpa using hy)
     |succ i=>rw[List.getElem?_cons_succ] at hx hy;exact h1 i x y hx hy
    ·simp only[List.getElem?_cons_zero,Option.some.injEq] at hx;subst hx
     by_cases hle:k≤s.2
     ·exact absurd ⟨hs,hle⟩ h
     ·omega
   ·rintro ⟨h1,_⟩
    exact ⟨fun i x y hx hy=>h1 (i+1) x y (by rw[List.getElem?_cons_succ];exact hx) (by rw[List.getElem?_cons_succ];exact hy),fun _ x hx=>h1 0 k x rfl (by rw[List.getElem?_cons_succ];exact hx)⟩
theorem rA (l:List ay):jy l=true↔∀i x y,l[i]?=some x→l[i+1]?=some y→x.1<y.1:=by
 unfold jy;rw[Cn];constructor
 ·rintro ⟨h,_⟩ i x y hx hy
  exact h i x.1 y.1 (by rw[List.getElem?_map,hx];rfl) (by rw[List.getElem?_map,hy];rfl)
 ·intro h
  refine ⟨fun i x y hx hy=>?_,fun e=>absurd e (by simp)⟩;rw[List.getElem?_map] at hx hy;cases ji:l[i]? with
  |none=>rw[ji] at hx;exact absurd hx (by simp)
  |some p=>
   cases BB:l[i+1]? with
   |none=>rw[BB] at hy;exact absurd hy (by simp)
   |some q=>rw[ji] at hx;rw[BB] at hy;simp only[Option.map_some,Option.some.injEq] at hx hy;subst hx hy;exact h i p q ji BB
theorem UG {md:Region.Mode} {S:World→Prop} {d:Option Tmp} {fuel:Nat} {listed:Array Bool} 
 (hi:ops[i]?=some oi) (hd:oi.dst=d) (hs:Region.noSelect ops=true) (hf:Region.free md ops listed i=true) (hr:(Region.ready md ops listed).contains i=true)
 (hQ:∀c a w,Q (.panic c) (a.put d v) w→Q (.panic c) a w) (hS:S w) (hw:Region.wanted oi (yielded ops a.tmps)=true) (hy:∀w,S w→(execOp a.eval oi).run P w=.ok (.value v) w)
 (h:wpAnyH P md ops Q S fuel (listed.setIfInBounds i true) (a.put d v) w):wpAnyH P md ops Q S (fuel+1) listed a w:=by
 subst hd;exact wpAnyH_take hi hs hf hr hQ (Or.inl ⟨hw,hy⟩) hS h
theorem UH {md:Region.Mode} {S:World→Prop} {d:Option Tmp} {fuel:Nat} {listed:Array Bool} 
 (hi:ops[i]?=some oi) (hd:oi.dst=d) (hs:Region.noSelect ops=true) (hf:Region.free md ops listed i=true) (hr:(Region.ready md ops listed).contains i=true)
 (hQ:∀c a w,Q (.panic c) (a.put d undef) w→Q (.panic c) a w) (hS:S w) (hw:Region.wanted oi (yielded ops a.tmps)=false)
 (h:wpAnyH P md ops Q S fuel (listed.setIfInBounds i true) (a.put d undef) w):wpAnyH P md ops Q S (fuel+1) listed a w:=by
 subst hd;exact wpAnyH_take hi hs hf hr hQ (Or.inr ⟨hw,rfl⟩) hS h
theorem aD:(∀(a:Act) (d:Option Tmp) (v:Value),a.put d v=match d with|none=>a|some d=>{a with tmps:=a.tmps.setIfInBounds d v})∧(∀(l:List Value) (i:Nat) (v:Value),l.toArray.setIfInBounds i v=(l.set i v).toArray)∧(∀(x v:Value) (l:List Value),(x::l).set 0 v=v::l)∧(∀(x v:Value) (l:List Value) (i:Nat),(x::l).set (i+1) v=x::l.set i v):=
 ⟨fun a d v=>by cases d <;> rfl,fun l i v=>List.setIfInBounds_toArray ..,fun _ _ _=>rfl,fun _ _ _ _=>rfl⟩
section
variable {P:Program} {ops:Array Oper} {Q:Exit→Act→World→Prop} {md:Region.Mode} {S:World→Prop} {fuel:Nat} {listed:Array Bool} {a:Act} {w:World}
theorem cB (i:Nat) (d:Tmp) (v:Value) (hi:ops[i]?=some oi) (hd:oi.dst=some d) (hS:S w) (h:wpAnyH P md ops Q S fuel (listed.setIfInBounds i true) (a.put (some d) v) w)
 (hy:∀w,S w→(execOp a.eval oi).run P w=.ok (.value v) w:=by intro w' hSw;(try dsimp only at hSw);go_split_ands;go_simp) (hs:Region.noSelect ops=true:=by kernel_rfl) (hf:Region.free md ops listed i=true:=by kernel_rfl) (hr:(Region.ready md ops listed).contains i=true:=by kernel_rfl) (hQ:∀c a w,Q (.panic c) (a.put (some d) v) w→Q (.panic c) a w:=by exact fun _ _ _ h=>h) (hw:Region.wanted oi (yielded ops a.tmps)=true:=by kernel_rfl):wpAnyH P md ops Q S (fuel+1) listed a w:=
 UG hi hd hs hf hr hQ hS hw hy h
theorem nO (i:Nat) (d:Tmp) (hi:ops[i]?=some oi) (hd:oi.dst=some d) (hS:S w) (h:wpAnyH P md ops Q S fuel (listed.setIfInBounds i true) (a.put (some d) undef) w)
 (hs:Region.noSelect ops=true:=by kernel_rfl) (hf:Region.free md ops listed i=true:=by kernel_rfl) (hr:(Region.ready md ops listed).contains i=true:=by kernel_rfl) (hQ:∀c a w,Q (.panic c) (a.put (some d) undef) w→Q (.panic c) a w:=by exact fun _ _ _ h=>h) (hw:Region.wanted oi (yielded ops a.tmps)=false:=by kernel_rfl):wpAnyH P md ops Q S (fuel+1) listed a w:=
 UH hi hd hs hf hr hQ hS hw h
theorem rgR (h:AllReadyH P md ops Q S fuel listed a w (Region.ready md ops listed)) (hn:(Region.ready md ops listed).isEmpty=false:=by decide +kernel):wpAnyH P md ops Q S (fuel+1) listed a w:=
 wpAnyH_ready rfl (fun e=>by rw[e] at hn;cases hn) h
theorem rgN {rs:List Nat} (h:rs.isEmpty=true:=by decide +kernel):AllReadyH P md ops Q S fuel listed a w rs:=fun i hi=>by rw[List.isEmpty_iff] at h;rw[h] at hi;cases hi
theorem yo {rs:List Nat} (i:Nat) (ho:ops[i]?=some o) (h:∀K':Act→World→Prop,Shut (∀a w,S w→(S w→wpAnyH P md ops Q S fuel (listed.setIfInBounds i true) a w)→K' a w)→if Region.wanted o (yielded ops a.tmps)=true then Oper.wp P o a w K' Q else K' (a.put o.dst undef) w)
 (hs:AllReadyH P md ops Q S fuel listed a w rs.tail) (e:rs.head?=some i:=by decide +kernel):AllReadyH P md ops Q S fuel listed a w rs:=by
 cases rs with
 |nil=>cases e
 |cons j l=>cases e;exact AllReadyH.cons ho h hs
theorem kh (i:Nat) (ho:ops[i]?=some o) (h:∀K':Act→World→Prop,Shut (∀a w,S w→(S w→wpAnyH P md ops Q S fuel (listed.setIfInBounds i true) a w)→K' a w)→if Region.wanted o (yielded ops a.tmps)=true then Oper.wp P o a w K' Q else K' (a.put o.dst undef) w)
 (hr:Region.ready md ops listed=[i]:=by kernel_rfl):wpAnyH P md ops Q S (fuel+1) listed a w:=wpAnyH_ready hr (by simp) (AllReadyH.cons ho h AllReadyH.nil)
end
theorem MV (t:ag):∀(a b c:Value) (low:Int) (w:World),bn w t a b c→0≤low→low≤2→Calls prog 206 #[.agg #[a,b,c],.int .i64 low] w fun e w'=>e=.returned (.bool (bE t low))∧Bw w w':=by
 induction t using ag.ind with
 |h ks vs kids ih=>
  intro a b c low w hn Bz hl2;have zh:=aa ih;clear ih;obtain ⟨⟨pa,ca,rfl,a1,a2,ha⟩,⟨pb,cb,rfl,b1,b2,MP⟩,⟨pc,cc,rfl,c1,c2,hk⟩⟩:=bA.1 hn;simp only[ag.keys,ag.vals,ag.kids] at a1 b1 c1 ha hk ⊢;have HK:=aa hk;have WZ:=aa ha;clear hk hn ha MP;obtain ⟨K,hK⟩:=aG ks.length;obtain ⟨M,hM⟩:=aG vs.length;obtain ⟨N,hN⟩:=aG kids.length;rw[hK] at a1 ⊢;rw[hM] at b1 ⊢;rw[hN] at c1 ⊢;have hla:=fG (n:=K) a2;have hlb:=fG (n:=M) b2;have hlc:=fG (n:=N) c2;have vn:=aa hK;have pY:=aa hM;have ll:=aa hN;clear a1 b1 c1 a2 b2 c2 hK hM hN;have kJ:=aa (show bE (.mk ks vs kids) low=(decide (low≤(K:Int)∧K≤4)&&(if N=0 then decide (M=K) else decide (M=0∧N=K∧2≤K)&&oK kids ks)) by simp only[bE];rw[vn.o,pY.o,ll.o]);have kB:=aa (show Bw w (w.alloc (.cells #[.slice pa K ca,.slice pb M cb,.slice pc N cc] 73)) from ar);by_cases hA:low≤(K:Int)∧K≤4
  case neg=>
   have HF:=aa (show bE (.mk ks vs kids) low=false by rw[kJ.o,decide_eq_false hA,Bool.false_and]);have hc:((K:Int)<low)∨(¬(K:Int)<low∧4<(K:Int)):=by omega
   clear hA;rcases hc with h1|⟨h1,h2⟩
   all_goals
    go_enter func206,ntmps206;go_wp2_with fail;go_ret;exact ⟨aN HF.symm,kB⟩
  have TT:¬(K:Int)<low:=by omega
  have hA4:¬4<(K:Int):=by omega
  have HA:=aa hA;by_cases hB:N=0
  ·have HF:=aa (show bE (.mk ks vs kids) low=decide (M=K) by rw[kJ.o,decide_eq_true hA,Bool.true_and,if_pos hB])
   have hz:((N:Int)==0)=true:=by rw[hB];rfl
   clear hA hB;by_cases hv:M=K
   ·have HV:=aa hv
    have hvb:((M:Int)==(K:Int))=true:=by rw[hv];simp
    clear hv;go_enter func206,ntmps206;go_wp2_with fail;go_ret;exact ⟨aN (by rw[HF.o,decide_eq_true HV.o]),kB⟩
   ·have HV:=aa hv
    have hvb:((M:Int)==(K:Int))=false:=by rw[beq_eq_false_iff_ne];omega
    clear hv;go_enter func206,ntmps206;go_wp2_with fail;go_ret;exact ⟨aN (by rw[HF.o,decide_eq_false HV.o]),kB⟩
  have hz:((N:Int)==0)=false:=by rw[beq_eq_false_iff_ne];omega
  by_cases hC:M=0∧N=K∧2≤K
  case neg=>
   have HF:=aa (show bE (.mk ks vs kids) low=false by rw[kJ.o,decide_eq_true hA,Bool.true_and,if_neg hB,decide_eq_false hC,Bool.false_and]);have hc:(0<M)∨(decide (0<M)=false∧N≠K)∨(decide (0<M)=false∧N=K∧(K:Int)<2):=by rw[decide_eq_false_iff_not];omega
   clear hC hA hB;rcases hc with h1|⟨h1,h2⟩|⟨h1,h2,h3⟩
   ·go_enter func206,ntmps206
    go_wp2_with fail;go_ret;exact ⟨aN HF.o.symm,kB.o⟩
   ·have hne:((N:Int) != (K:Int))=true:=by rw[bne_iff_ne];omega
    clear h2;go_enter func206,ntmps206;go_wp2_with fail;go_ret;exact ⟨aN HF.symm,kB⟩
   ·have hne:((N:Int) != (K:Int))=false:=by rw[h2];simp
    clear h2;go_enter func206,ntmps206;go_wp2_with fail;go_ret;exact ⟨aN HF.symm,kB⟩
  have HFC:=aa (show bE (.mk ks vs kids) low=oK kids ks by rw[kJ.o,decide_eq_true hA,Bool.true_and,if_neg hB,decide_eq_true hC,Bool.true_and]);obtain ⟨hC1,hC2,hC3⟩:=hC;have hne:((N:Int) != (K:Int))=false:=by rw[hC2];simp
  have hv0:decide (0<M)=false:=by rw[decide_eq_false_iff_not];omega
  have hk2:¬(K:Int)<2:=by omega
  subst hC2;have FO:=aa hC3;clear hA hB hC1 hC3 HA kJ;go_enter func206,ntmps206;go_wp2_with fail;go_loopw [6] (fun i wr=>∃k:Nat,k≤N∧i=.int .i64 k∧(∀(j:Nat) (s:ag),j<k→kids[j]?=some s→bE s 2=true∧s.keys.head?=ks[j]?)∧gN w.heap.size (.slice pa N ca) (.slice pb M cb) (.slice pc N cc) wr∧Bw w wr) (fun i _=>N-(intOf i).toNat)
  case atStart=>exact ⟨0,dO,rfl,fun j s hj=>by omega,⟨by simp,by simp,by simp⟩,kB⟩
  case round=>
   obtain ⟨k,hk,rfl,hall,fI,hb⟩:=hrel;have ed:=aa hall;have HX:=aa fI;have HB:=aa hb;obtain ⟨q0,q1,q2⟩:=fI;have hlx:=World.block_lt_of_cell? _ _ q0;clear hall hb;by_cases hlt:k<N
   case neg=>
    obtain rfl:k=N:=by omega
    have HF:=aa (show bE (.mk ks vs kids) low=true by
     rw[HFC.o,eT];intro j s hj;exact ed j s (by have:=(List.getElem?_eq_some_iff.1 hj).1;rw[ll.o] at this;exact this) hj)
    go_wp2_with fail;go_ret;exact ⟨aN HF.symm,HB⟩
   have fN:(k:Int)<(N:Int):=(by omega);obtain ⟨s,hs⟩:=fx (l:=kids) (k:=k) (by rw[ll.o];exact hlt);obtain ⟨x,hx⟩:=fx (l:=ks) (k:=k) (by rw[vn.o];exact hlt);obtain ⟨g,o,x1,y,z,rfl,e1,e2,e3,e4⟩:=HK.o k s hs;obtain ⟨_,ga,oa,rfl,BA⟩:=WZ.o k x hx;have r1:=ae HB e1;have r2:=ae HB e2;have r3:=ae HB e3;have rx:=ae HB BA;have zl:=aa (show bn wr.drew s x1 y z from (e4.keep (af HB)).keep (af aH.drew));have HS:=aa hs;have HM:=aa (List.mem_of_getElem? hs);have HXX:=aa hx;clear hs hx e1 e2 e3 e4 BA;cases hsz:bE s 2 with
   |false=>
    have HT:=aa hsz;clear hsz;have HF:=aa (show bE (.mk ks vs kids) low=false by
     rw[HFC.o,← Bool.not_eq_true,eT];intro h;have:=(h k s HS).1;rw[HT.o] at this;exact absurd this (by simp))
    clear rx;go_wp2_with fail;refine wp_region_held_drew (S:=fun w'=>w'.cell? ⟨w.heap.size,2,none⟩=some (.slice (some ⟨g,o,none⟩) N cc)∧w'.cell? ⟨g,o+k*3,none⟩=some x1∧w'.cell? ⟨g,o+k*3+1,none⟩=some y∧w'.cell? ⟨g,o+k*3+2,none⟩=some z) (by kernel_rfl) ⟨q2,r1,r2,r3⟩ (fun hHeld=>?_);refine cB 0 46 (.pointer (some ⟨w.heap.size,2,none⟩)) rfl rfl hHeld ?_;simp only[aD];refine cB 1 47 (.slice (some ⟨g,o,none⟩) N cc) rfl rfl hHeld ?_;simp only[aD];refine cB 2 48 (.int .i64 k) rfl rfl hHeld ?_;simp only[aD];refine cB 3 49 (.pointer (some ⟨g,o+k*3,none⟩)) rfl rfl hHeld ?_;simp only[aD];refine cB 4 50 (.agg #[x1,y,z]) rfl rfl hHeld ?_;simp only[aD];refine kh 5 rfl (fun K hK=>?_);go_simp;refine (zh s HM x1 y z 2 _ zl (by omega) (by omega)).mono ?_;rintro e w1 ⟨rfl,hb⟩;have aY:=aa (ak (Below.refl _ wr).drew hb);have jZ:=aa (And.intro (ae hb (show wr.drew.cell? _=_ from q2)) (And.intro (ae hb (show wr.drew.cell? _=_ from r1)) (And.intro (ae hb (show wr.drew.cell? _=_ from r2)) (ae hb (show wr.drew.cell? _=_ from r3)))));clear hb;rw[HT.o];clear hHeld;go_simp;refine hK.out _ _ jZ (fun hHeld=>?_);clear hK K;refine cB 6 52 (.bool true) rfl rfl hHeld ?_;simp only[aD];refine cB 7 53 (.bool true) rfl rfl hHeld ?_;simp only[aD];refine nO 8 54 rfl rfl hHeld ?_;simp only[aD];refine nO 9 55 rfl rfl hHeld ?_;simp only[aD];refine nO 10 56 rfl rfl hHeld ?_;simp only[aD];refine nO 11 57 rfl rfl hHeld ?_;simp only[aD];refine nO 12 58 rfl rfl hHeld ?_;simp only[aD];refine nO 13 59 rfl rfl hHeld ?_;simp only[aD];refine nO 14 60 rfl rfl hHeld ?_;simp only[aD];refine nO 15 61 rfl rfl hHeld ?_;simp only[aD];refine nO 16 62 rfl rfl hHeld ?_;simp only[aD];refine nO 17 63 rfl rfl hHeld ?_;simp only[aD];refine nO 18 64 rfl rfl hHeld ?_;simp only[aD];refine nO 19 65 rfl rfl hHeld ?_;simp only[aD];refine nO 20 66 rfl rfl hHeld ?_;simp only[aD];refine nO 21 67 rfl rfl hHeld ?_;simp only[aD];refine cB 22 68 (.bool true) rfl rfl hHeld ?_;simp only[aD];refine wpAnyH_done (by kernel_rfl) ?_ _;go_wp2_with fail;go_ret;exact ⟨aN HF.symm,ak HB aY⟩
   |true=>
    obtain ⟨⟨p',c',rfl,l1,l2,Xa⟩,_,_⟩:=bA.1 zl.o;have HL:=aa (Cl hsz);obtain ⟨h,hh⟩:=fx (l:=s.keys) (k:=0) (by have:=HL.o;omega);obtain ⟨_,gh,oh,rfl,QA⟩:=Xa 0 h hh;simp only[Nat.add_zero] at QA;have vh:(0:Int)<(s.keys.length:Int):=by have:=HL.o;omega
    obtain ⟨KK,hKK⟩:=aG s.keys.length;rw[hKK] at vh r1 zl l1;have apW:0<KK:=by omega
    have UI:=fG (n:=KK) l2;have HHH:=aa (show s.keys.head?=some h by rw[List.head?_eq_getElem?];exact hh);have HT:=aa hsz;clear hsz hh Xa l1 l2 hKK;by_cases FP:h=x
    ·have QB:(h != x)=false:=by rw[FP];simp
     have HXE:=aa FP;clear FP;go_wp2_with fail;go_region_held3 (fun w'=>w'.cell? ⟨w.heap.size,2,none⟩=some (.slice (some ⟨g,o,none⟩) N cc)∧w'.cell? ⟨w.heap.size,0,none⟩=some (.slice (some ⟨ga,oa,none⟩) N ca)∧w'.cell? ⟨g,o+k*3,none⟩=some (.slice (some ⟨gh,oh,none⟩) KK c')∧w'.cell? ⟨g,o+k*3+1,none⟩=some y∧w'.cell? ⟨g,o+k*3+2,none⟩=some z∧w'.cell? ⟨ga,oa+k,none⟩=some (.int .i64 x)∧w'.cell? ⟨gh,oh,none⟩=some (.int .i64 h))
      (first|exact ⟨q2,q0,r1,r2,r3,rx,QA⟩|exact jZ.o)
      (((with_reducible refine (zh.o s HM.o _ y z 2 _ zl.o (by omega) (by omega)).mono ?_);rintro e w1 ⟨rfl,hb⟩;have aY:=aa (ak (Below.refl _ wr).drew hb);have jZ:=aa (And.intro (ae hb (show wr.drew.cell? _=_ from q2)) (And.intro (ae hb (show wr.drew.cell? _=_ from q0)) (And.intro (ae hb (show wr.drew.cell? _=_ from r1)) (And.intro (ae hb (show wr.drew.cell? _=_ from r2)) (And.intro (ae hb (show wr.drew.cell? _=_ from r3)) (And.intro (ae hb (show wr.drew.cell? _=_ from rx)) (ae hb (show wr.drew.cell? _=_ from QA))))))));clear hb;rw[HT.o]))
     go_wp2_with fail;go_roundw
     case rel=>
      refine ⟨k+1,by omega,by go_num,fun j s' hj nM=>?_,HX.o.below aY.o,ak HB.o aY.o⟩;by_cases e:j=k
      ·subst e
       rw[HS.o] at nM;cases nM;exact ⟨HT,by rw[HHH.o,HXX.o,HXE.o]⟩
      ·exact ed j s' (by omega) nM
     case measure=>simp[intOf];omega
    ·have QB:(h != x)=true:=by rw[bne_iff_ne];exact FP
     have HF:=aa (show bE (.mk ks vs kids) low=false by
      rw[HFC.o,← Bool.not_eq_true,eT];intro hall;have:=(hall k s HS).2;rw[HHH.o,HXX.o] at this;injection this with this;exact FP this)
     clear FP;go_wp2_with fail;go_region_held3 (fun w'=>w'.cell? ⟨w.heap.size,2,none⟩=some (.slice (some ⟨g,o,none⟩) N cc)∧w'.cell? ⟨w.heap.size,0,none⟩=some (.slice (some ⟨ga,oa,none⟩) N ca)∧w'.cell? ⟨g,o+k*3,none⟩=some (.slice (some ⟨gh,oh,none⟩) KK c')∧w'.cell? ⟨g,o+k*3+1,none⟩=some y∧w'.cell? ⟨g,o+k*3+2,none⟩=some z∧w'.cell? ⟨ga,oa+k,none⟩=some (.int .i64 x)∧w'.cell? ⟨gh,oh,none⟩=some (.int .i64 h))
      (first|exact ⟨q2,q0,r1,r2,r3,rx,QA⟩|exact jZ.o)
      (((with_reducible refine (zh.o s HM.o _ y z 2 _ zl.o (by omega) (by omega)).mono ?_);rintro e w1 ⟨rfl,hb⟩;have aY:=aa (ak (Below.refl _ wr).drew hb);have jZ:=aa (And.intro (ae hb (show wr.drew.cell? _=_ from q2)) (And.intro (ae hb (show wr.drew.cell? _=_ from q0)) (And.intro (ae hb (show wr.drew.cell? _=_ from r1)) (And.intro (ae hb (show wr.drew.cell? _=_ from r2)) (And.intro (ae hb (show wr.drew.cell? _=_ from r3)) (And.intro (ae hb (show wr.drew.cell? _=_ from rx)) (ae hb (show wr.drew.cell? _=_ from QA))))))));clear hb;rw[HT.o]))
     go_wp2_with fail;go_ret;exact ⟨aN HF.symm,ak HB aY⟩
def dW (w:World) (v:Value) (l:List ay):Prop:=
 ∃p c,v=.slice p l.length c∧l.length≤c∧c≤maxLen∧∀i x,l[i]?=some x→∃g o,p=some ⟨g,o,none⟩∧w.cell? ⟨g,o+i*2,none⟩=some (.int .i64 x.1)∧w.cell? ⟨g,o+i*2+1,none⟩=some (.int .i64 x.2)
theorem dW.keep {l:List ay} (h:dW w v l) (hk:dI w w'):dW w' v l:=by obtain ⟨p,c,h1,h2,h3,h4⟩:=h;refine ⟨p,c,h1,h2,h3,fun i x hx=>?_⟩;obtain ⟨g,o,e1,e2,e3⟩:=h4 i x hx;exact ⟨g,o,e1,hk _ _ e2,hk _ _ e3⟩
def FQ (l:List ay):Prop:=∀x∈l,aQ x.1∧aQ x.2
theorem sV (l:List ay):∀(i:Nat) (x:ay),l[i]?=some x→(bJ l).flatten[i*2]?=some (.int .i64 x.1)∧(bJ l).flatten[i*2+1]?=some (.int .i64 x.2):=by
 induction l with
 |nil=>intro i x h;simp at h
 |cons a l ih=>
  intro i x h;unfold bJ DX at ih ⊢;cases i with
  |zero=>simp only[List.getElem?_cons_zero,Option.some.injEq] at h;subst h;exact ⟨rfl,rfl⟩
  |succ i=>rw[List.getElem?_cons_succ] at h;obtain ⟨h1,h2⟩:=ih i x h;simp only[List.map_cons,List.flatten_cons,List.cons_append,List.nil_append];rw[show (i+1)*2=i*2+1+1 by omega,List.getElem?_cons_succ,List.getElem?_cons_succ,List.getElem?_cons_succ,List.getElem?_cons_succ];exact ⟨h1,h2⟩
theorem vz (l:List ay):(bJ l).flatten.length=l.length*2:=by
 induction l with
 |nil=>rfl
 |cons a l ih=>unfold bJ DX at ih ⊢;simp only[List.map_cons,List.flatten_cons,List.cons_append,List.nil_append,List.length_cons,ih];omega
theorem eC {l:List ay} (h:w.ownsRow B 82 2 v l.length (bJ l).flatten):dW w v l:=by
 rcases aJ h with ⟨hv,hn,_⟩|⟨g,cap,hv⟩
 ·exact ⟨none,0,by rw[hv,hn],by omega,by unfold maxLen;omega,fun i x hx=>by rw[List.eq_nil_of_length_eq_zero hn] at hx;simp at hx⟩
 ·subst hv
  obtain ⟨_,_,_,h3,h4,_⟩:=bl h;refine ⟨_,cap,rfl,h3,h4,fun i x hx=>⟨g,0,rfl,?_⟩⟩;obtain ⟨h1,h2⟩:=sV l i x hx;have hi:=(List.getElem?_eq_some_iff.1 hx).1;have hl:=vz l;constructor
  ·have:=bG h (i*2) (by omega)
   rw[List.getElem?_eq_getElem (by omega)] at h1;rw[Nat.zero_add,this];exact h1
  ·have:=bG h (i*2+1) (by omega)
   rw[List.getElem?_eq_getElem (by omega)] at h2;rw[Nat.zero_add,this];exact h2
theorem mR (W:World) (B n:Nat) (v:Value) (l:List ay) (x y:Int) (hown:W.ownsRow B 82 2 v n (bJ l).flatten) (hn:n≤1000000) (hB:B≤W.heap.size) :
 ∃g cap w2,(Builtin.append_ #[76,76] 76 #[v,.slice (some ⟨W.heap.size,0,none⟩) 1 1]).run prog (W.alloc (.cells #[.int .i64 x,.int .i64 y] 82))=.ok (.slice (some ⟨g,0,none⟩) (n+1) cap) w2 ∧
  w2.ownsRow B 82 2 (.slice (some ⟨g,0,none⟩) (n+1) cap) (n+1) (bJ (l++[(x,y)])).flatten∧Below B W w2:=by
 obtain ⟨i0,iM,hz0,hz1,hz2⟩:=info_parts FJ;obtain ⟨v',w',h1,h2,h3,_⟩:=run_append_own_at (P:=prog) (W.alloc (.cells #[.int .i64 x,.int .i64 y] 82)) B 76 76 82 i0 (.agg #[.int .i64 0,.int .i64 0]) 2 16 underlying76 iM hz0 hz1 hz2 rfl (by decide) v n _ (hown.alloc _) ⟨W.heap.size,0,none⟩ 1 1 [.int .i64 x,.int .i64 y] rfl zj (by intro u hu;simp only[List.mem_cons,List.not_mem_nil,or_false] at hu;rcases hu with rfl|rfl <;> rfl) (by unfold maxLen;omega) (by omega) (by simp;omega);obtain ⟨g,cap,rfl⟩:=ownsRow_succ h2;refine ⟨g,cap,w',h1,?_,?_⟩
 ·rw[nC];exact h2
 ·exact lR aH hB hown h3
def bw (l:List Int):List Value:=l.map (.int .i64)
theorem acf:(prog.info? 3).map (fun i=>(i.zero,i.size,i.bytes))=some (some (.int .i64 0),1,8):=by kernel_rfl
theorem pZ {l:List Int} (hl:∀x∈l,aQ x) (h:w.ownsRow B 3 1 v l.length (bw l)):fA w v l:=by
 rcases aJ h with ⟨hv,hn,_⟩|⟨g,cap,hv⟩
 ·exact ⟨none,0,by rw[hv,hn],by omega,by unfold maxLen;omega,fun i x hx=>by rw[List.eq_nil_of_length_eq_zero hn] at hx;simp at hx⟩
 ·subst hv
  obtain ⟨_,_,_,h3,h4,_⟩:=bl h;refine ⟨_,cap,rfl,h3,h4,fun i x hx=>⟨hl x (List.mem_of_getElem? hx),g,0,rfl,?_⟩⟩;have hi:=(List.getElem?_eq_some_iff.1 hx).1;have:=bG h i (by unfold bw;rw[List.length_map];exact hi);rw[Nat.zero_add,this];unfold bw;rw[List.getElem_map];obtain ⟨_,rfl⟩:=List.getElem?_eq_some_iff.1 hx;rfl
theorem nS (t:ag):∀ {w:World} {a b c:Value},bn w t a b c→FQ (aA t):=by
 induction t using ag.ind with
 |h ks vs kids ih=>
  intro w a b c h x hx;rw[bA] at h;obtain ⟨⟨_,_,_,_,_,h1⟩,⟨_,_,_,_,_,h2⟩,_,_,_,_,_,h3⟩:=h;simp only[ag.keys,ag.vals,ag.kids] at h1 h2 h3;simp only[aA,List.mem_append] at hx;rcases hx with hx|hx
  ·split at hx
   ·have hm:=List.of_mem_zip (show (x.1,x.2)∈ks.zip vs from hx)
    obtain ⟨i,hi⟩:=List.mem_iff_getElem?.1 hm.1;obtain ⟨j,hj⟩:=List.mem_iff_getElem?.1 hm.2;exact ⟨(h1 i _ hi).1,(h2 j _ hj).1⟩
   ·simp at hx
  ·rw[bW,List.mem_flatten] at hx
   obtain ⟨q,hq,hx⟩:=hx;rw[List.mem_map] at hq;obtain ⟨s,hs,rfl⟩:=hq;obtain ⟨j,hj⟩:=List.mem_iff_getElem?.1 hs;obtain ⟨g,o,_,_,_,_,_,_,_,e⟩:=h3 j s hj;exact ih s hs e x hx
theorem JK (t:ag) (a b c:Value) (w:World) (hn:bn w t a b c) (hlen:(aA t).length≤1000000):Calls prog 173 #[.agg #[a,b,c]] w fun e w'=>e=.returned (.bool (jN t))∧Bw w w':=by
 have fI:Bw w (w.alloc (.cells #[a,b,c] 73)):=ar;have HN:=aa hn;have HB:=aa fI;have HLEN:=aa hlen;obtain ⟨⟨pa,ca,rfl,_,_,_⟩,⟨pb,cb,rfl,_,_,_⟩,⟨pc,cc,rfl,_,_,_⟩⟩:=bA.1 hn;clear hn fI hlen;go_enter func173,ntmps173;go_wp2_with fail;refine (Qv t _ _ _ 40 _ (HN.keep (af HB)) (by omega) (by omega)).mono ?_;rintro e w1 ⟨rfl,hb⟩;have aY:=bh HB hb;have aU:=aa (show gN w.heap.size (.slice pa t.keys.length ca) (.slice pb t.vals.length cb) (.slice pc t.kids.length cc) w1 from gN.below ⟨by simp,by simp,by simp⟩ hb);clear hb;obtain ⟨D,hD⟩:=aG (cC t 40);rw[hD];have HD:=aa hD;clear hD;obtain ⟨q0,q1,q2⟩:=aU.o;have hlx:=World.block_lt_of_cell? _ _ q0;by_cases hz:D=0
 ·have HF:=aa (show jN t=false by unfold jN;rw[HD.o];simp[hz])
  have hzb:(D==0)=true:=by simpa using hz
  clear hz;go_wp2_with fail;go_ret;exact ⟨aN HF.symm,aY⟩
 have hzb:(D==0)=false:=by simpa using hz
 have HZ:=aa hz;clear hz;go_wp2_with fail;refine (MV t _ _ _ 0 _ (HN.keep (af aY)) (by omega) (by omega)).mono ?_;rintro e w2 ⟨rfl,hb⟩;have bS:=bh aY hb;have dV:=aa (aU.below hb);clear hb q0 q1 q2 hlx;obtain ⟨q0,q1,q2⟩:=dV.o;have hlx:=World.block_lt_of_cell? _ _ q0;cases hs:bE t 0 with
 |false=>have HF:=aa (show jN t=false by unfold jN;rw[hs];simp);clear hs;go_wp2_with fail;go_ret;exact ⟨aN HF.symm,bS⟩
 |true=>
  have HS:=aa (show jN t=jy (aA t) by unfold jN;rw[hs,HD.o,decide_eq_true HZ.o];simp);clear hs;go_wp2_with fail;refine (kq t _ _ _ _ (HN.keep (af bS)) HLEN).mono ?_;rintro e w3 ⟨v3,rfl,hrow,hb⟩;obtain ⟨p,cp,rfl,_,hcm,hcs⟩:=eC hrow;have dF:=bh bS hb;have QC:=aa hcs;obtain ⟨l,hl⟩:=aG (aA t);rw[hl] at QC HS ⊢;obtain ⟨N,hN⟩:=aG l.length;rw[hN];have hlc:(N:Int)≤9223372036854775807:=by have:=HLEN.o;rw[hl,hN] at this;omega
  have ll:=aa hN;clear hb hrow hcs hl hN q0 q1 q2 hlx hcm;go_wp2_with fail;go_loopw [4] (fun i wr=>∃k:Nat,(k≤N∨k=1)∧1≤k∧i=.int .i64 k∧(∀(j:Nat) x y,j+1<k→l[j]?=some x→l[j+1]?=some y→x.1<y.1)∧Bw w3 wr) (fun i _=>N+1-(intOf i).toNat)
  case atStart=>exact ⟨1,.inr rfl,aT,rfl,fun j x y hj=>by omega,aH⟩
  case round=>
   obtain ⟨k,hk,FH,rfl,hall,hb⟩:=hrel;have ed:=aa hall;have HB:=aa hb;clear hall hb;by_cases hlt:k<N
   case neg=>
    have fN:¬(k:Int)<(N:Int):=(by omega);have HF:=aa (show jN t=true by
     rw[HS.o,rA];intro j x y hx hy;exact ed j x y (by have:=(List.getElem?_eq_some_iff.1 hy).1;have:=ll.o;omega) hx hy)
    clear hk;go_wp2_with fail;go_ret;exact ⟨aN HF.symm,ak dF HB⟩
   have fN:(k:Int)<(N:Int):=(by omega);obtain ⟨m,hm⟩:∃m,k=m+1:=⟨k-1,by omega⟩
   obtain ⟨x,hx⟩:=fx (l:=l) (k:=m) (by rw[ll.o];omega);obtain ⟨y,hy⟩:=fx (l:=l) (k:=k) (by rw[ll.o];omega);obtain ⟨g,o,rfl,x1,_⟩:=QC.o m x hx;obtain ⟨g',o',LU,y1,_⟩:=QC.o k y hy;cases LU;have r1:=ae HB x1;have r2:=ae HB y1;have e5:IntKind.i64.wrap ((k:Int)-1)=(m:Int):=by rw[IntKind.wrap_i64];omega
   have e6:(m:Int)<(N:Int):=(by omega);have HX:=aa hx;have HY:=aa hy;have HM:=aa hm;clear hx hy hm x1 y1 hk;by_cases BM:x.1<y.1
   ·have Qb:decide (y.1≤x.1)=false:=by simp;omega
    have HXY:=aa BM;clear BM;go_wp2_with fail;go_quiet (fail);go_wp2_with fail;go_roundw
    case rel=>
     refine ⟨k+1,.inl (by omega),by omega,by go_num,fun j x' y' hj ji BB=>?_,az HB.o _⟩;by_cases e:j+1=k
     ·obtain rfl:j=m:=by have:=HM.o;omega
      rw[HX.o] at ji;rw[e,HY.o] at BB;cases ji;cases BB;exact HXY.o
     ·exact ed j x' y' (by omega) ji BB
    case measure=>simp[intOf];omega
   ·have Qb:decide (y.1≤x.1)=true:=by simp;omega
    have Xb:y.1≤x.1:=(by omega);have HF:=aa (show jN t=false by
     rw[HS.o,← Bool.not_eq_true,rA];intro h;exact BM (h m x y HX (by rw[← HM.o];exact HY)))
    clear BM;go_wp2_with fail;go_quiet (fail);go_wp2_with fail;go_ret;exact ⟨aN HF.symm,az (ak dF HB) _⟩
def lW (a b:List ay):Bool:=decide (a=b)
theorem FR (x y:List ay) (v1 v2:Value) (w:World) (h1:dW w v1 x) (h2:dW w v2 y):Calls prog 144 #[v1,v2] w fun e w'=>e=.returned (.bool (lW x y))∧Bw w w':=by
 obtain ⟨p,cp,rfl,a1,a2,ha⟩:=h1;obtain ⟨q,cq,rfl,b1,b2,hb⟩:=h2;have HA:=aa ha;have jl:=aa hb;obtain ⟨N,hN⟩:=aG x.length;obtain ⟨M,hM⟩:=aG y.length;rw[hN] at a1;rw[hM] at b1;rw[hN,hM];have hlc:=fG (n:=N) a2;have hld:=fG (n:=M) b2;have HN:=aa hN;have HM:=aa hM;clear ha hb hN hM a1 a2 b1 b2;by_cases hNM:N=M
 case neg=>
  have hne:((N:Int) != (M:Int))=true:=by rw[bne_iff_ne];omega
  have HF:=aa (show lW x y=false by
   unfold lW;rw[decide_eq_false_iff_not];intro h;exact hNM (by rw[← HN.o,← HM.o,h]))
  clear hNM;go_enter func144,ntmps144;go_wp2_with fail;go_ret;exact ⟨aN HF.symm,aH⟩
 subst hNM;have hne:((N:Int) != (N:Int))=false:=by simp
 go_enter func144,ntmps144;go_wp2_with fail;go_loopw [5] (fun i wr=>∃k:Nat,k≤N∧i=.int .i64 k∧(∀(j:Nat),j<k→x[j]?=y[j]?)∧Bw w wr) (fun i _=>N-(intOf i).toNat)
 case atStart=>exact ⟨0,dO,rfl,fun j hj=>by omega,aH⟩
 case round=>
  obtain ⟨k,hk,rfl,hall,hb⟩:=hrel;have ed:=aa hall;have HB:=aa hb;clear hall hb;by_cases hlt:k<N
  case neg=>
   obtain rfl:k=N:=by omega
   have HF:=aa (show lW x y=true by
    unfold lW;rw[decide_eq_true_eq];apply List.ext_getElem?;intro j;by_cases hj:j<k
    ·exact ed j hj
    ·rw[List.getElem?_eq_none (by rw[HN.o];omega),List.getElem?_eq_none (by rw[HM.o];omega)])
   go_wp2_with fail;go_ret;exact ⟨aN HF.symm,HB⟩
  have fN:(k:Int)<(N:Int):=by omega
  obtain ⟨s,hs⟩:=fx (l:=x) (k:=k) (by rw[HN.o];omega);obtain ⟨t,ht⟩:=fx (l:=y) (k:=k) (by rw[HM.o];omega);obtain ⟨g,o,rfl,x1,x2⟩:=HA.o k s hs;obtain ⟨g',o',rfl,y1,y2⟩:=jl.o k t ht;have r1:=ae HB x1;have r2:=ae HB x2;have r3:=ae HB y1;have r4:=ae HB y2;have HS:=aa hs;have HT:=aa ht;clear hs ht x1 x2 y1 y2;by_cases hst:s=t
  ·subst hst
   have b1:(s.1==s.1)=true:=(by simp);have b2:(s.2==s.2)=true:=by simp
   go_wp2_with fail;go_quiet (fail);go_wp2_with fail;go_roundw
   case rel=>
    refine ⟨k+1,by omega,by go_num,fun j hj=>?_,az HB.o _⟩;by_cases e:j=k
    ·subst e;rw[HS.o,HT.o]
    ·exact ed j (by omega)
   case measure=>simp[intOf];omega
  ·have HF:=aa (show lW x y=false by
    unfold lW;rw[decide_eq_false_iff_not];intro h;subst h;exact hst (by have:=HS.o;rw[HT.o] at this;injection this with this;exact this.symm))
   have hc:((s.1==t.1)=false)∨((s.1==t.1)=true∧(s.2==t.2)=false):=by
    by_cases e1:s.1=t.1
    ·by_cases e2:s.2=t.2
     ·exact absurd (Prod.ext e1 e2) hst
     ·exact .inr ⟨by simpa using e1,by simpa using e2⟩
    ·exact .inl (by simpa using e1)
   clear hst;rcases hc with h1|⟨h1,h2⟩
   all_goals
    go_wp2_with fail;go_quiet (fail);go_wp2_with fail;go_ret;exact ⟨aN HF.symm,az HB _⟩
def kd (l:List ay) (k:Int):Int×Bool:=match l.find? (fun x=>x.1==k) with
 |some x=>(x.2,true)
 |none=>(0,false)
theorem zm (x:List ay) (q:Int) (v1:Value) (w:World) (h1:dW w v1 x):Calls prog 87 #[v1,.int .i64 q] w fun e w'=>e=.returned (.tuple #[.int .i64 (kd x q).1,.bool (kd x q).2])∧w=w':=by
 obtain ⟨p,cp,rfl,a1,a2,ha⟩:=h1;have HA:=aa ha;obtain ⟨N,hN⟩:=aG x.length;rw[hN] at a1;rw[hN];have hlc:=fG (n:=N) a2;have HN:=aa hN;clear ha hN a1 a2;go_enter func87,ntmps87;go_wp2_with fail;go_loop [6] (fun i=>∃k:Nat,k≤N∧i=.int .i64 k∧kd x q=kd (x.drop k) q) (fun i=>N-(intOf i).toNat)
 case atStart=>exact ⟨0,dO,rfl,by rw[List.drop_zero]⟩
 case round=>
  obtain ⟨k,hk,rfl,hall⟩:=hrel;have ed:=aa hall;clear hall;by_cases hlt:k<N
  case neg=>
   obtain rfl:k=N:=by omega
   have HF:=aa (show kd x q=(0,false) by rw[ed.o,List.drop_of_length_le (by rw[HN.o];omega)];rfl);go_wp2_with fail;go_ret2;rw[HF.o];exact ⟨rfl,rfl⟩
  have fN:(k:Int)<(N:Int):=by omega
  obtain ⟨s,hs⟩:=fx (l:=x) (k:=k) (by rw[HN.o];omega);obtain ⟨g,o,rfl,x1,x2⟩:=HA.o k s hs;have hd:x.drop k=s::x.drop (k+1):=by obtain ⟨hk2,hx⟩:=List.getElem?_eq_some_iff.1 hs;rw[List.drop_eq_getElem_cons hk2,hx]
  have HD:=aa hd;clear hs hd;by_cases D5:s.1=q
  ·have hb:(s.1==q)=true:=by simpa using D5
   have HF:=aa (show kd x q=(s.2,true) by rw[ed.o,HD.o];unfold kd;rw[List.find?_cons_of_pos (p:=fun x:ay=>x.1==q) hb]);clear D5;go_wp2_with fail;go_ret2;rw[HF.o];exact ⟨rfl,rfl⟩
  ·have hb:(s.1==q)=false:=by simpa using D5
   have HF:=aa (show kd x q=kd (x.drop (k+1)) q by rw[ed.o,HD.o];unfold kd;rw[List.find?_cons_of_neg (p:=fun x:ay=>x.1==q) (by simpa using D5)]);clear D5;go_wp2_with fail;go_round
   case rel=>exact ⟨k+1,by omega,by go_num,HF.o⟩
   case measure=>simp[intOf];omega
def fB:List ay→Int→Int→Bool→List ay
 |[],k,v,laid=>if laid then [] else [(k,v)]
 |x::l,k,v,laid=>(if laid=false∧k≤x.1 then [(k,v)] else [])++(if x.1=k then [] else [x])++fB l k v (laid || decide (k≤x.1))
theorem nT (x:ay) (l:List ay) (k v:Int) (laid:Bool):fB (x::l) k v laid=(if laid=false∧k≤x.1 then [(k,v)] else [])++(if x.1=k then [] else [x])++fB l k v (laid || decide (k≤x.1)):=by simp only[fB]
theorem qh:∀(l:List ay) (k v:Int) (laid:Bool),(fB l k v laid).length≤l.length+(if laid then 0 else 1)
 |[],k,v,laid=>by cases laid <;> simp[fB]
 |x::l,k,v,laid=>by
  have:=qh l k v (laid || decide (k≤x.1));simp only[fB,List.length_append,List.length_cons];cases laid
  ·by_cases h:k≤x.1
   ·by_cases e:x.1=k
    ·simp[e] at this ⊢;omega
    ·simp[h,e] at this ⊢;omega
   ·by_cases e:x.1=k
    ·omega
    ·simp[h,e] at this ⊢;omega
  ·by_cases e:x.1=k
   ·simp[e] at this ⊢;omega
   ·simp[e] at this ⊢;omega
theorem zn (x:List ay) (q u:Int) (v1:Value) (w:World) (h1:dW w v1 x) (hlen:x.length≤900000):Calls prog 88 #[v1,.int .i64 q,.int .i64 u] w fun e w'=>∃v',e=.returned v'∧w'.ownsRow w.heap.size 82 2 v' (fB x q u false).length (bJ (fB x q u false)).flatten∧Bw w w':=by
 obtain ⟨p,cp,rfl,a1,a2,ha⟩:=h1;have HA:=aa ha;obtain ⟨N,hN⟩:=aG x.length;rw[hN] at a1 hlen;rw[hN];have hlc:(N:Int)≤900000:=by omega
 have HN:=aa hN;clear ha hN a1 a2 hlen;go_enter func88,ntmps88;go_wp2_with fail;go_loopw [7,8,9] (fun v lb i wr=>∃(k:Nat) (laid:Bool) (done:List ay),k≤N∧i=.int .i64 k∧lb=.bool laid∧fB x q u false=done++fB (x.drop k) q u laid∧done.length≤N+1∧wr.ownsRow w.heap.size 82 2 v done.length (bJ done).flatten∧Bw w wr) (fun _ _ i _=>N-(intOf i).toNat)
 case atStart=>
  refine ⟨0,false,[],dO,rfl,rfl,by rw[List.drop_zero];rfl,by simp,?_,ar⟩;have:=World.ownsRow_made w #[] 0 (base:=w.heap.size) (e:=82) (size:=2) aT (by unfold maxLen;omega) rfl
  simpa [bJ] using this
 case round=>
  obtain ⟨k,laid,done,hk,rfl,rfl,hput,wW,hown,hb⟩:=hrel;have HP:=aa hput;have HB:=aa hb;have HO:=aa hown;clear hput hb hown;by_cases hlt:k<N
  case neg=>
   obtain rfl:k=N:=by omega
   have HD:=aa (show x.drop k=[] from List.drop_of_length_le (by rw[HN.o];omega));cases laid with
   |true=>have HF:=aa (show fB x q u false=done by rw[HP.o,HD.o];simp[fB]);go_wp2_with fail;go_ret;refine ⟨_,rfl,?_,HB⟩;rw[HF.o];exact HO.o
   |false=>have HF:=aa (show fB x q u false=done++[(q,u)] by rw[HP.o,HD.o];simp[fB]);obtain ⟨g1,c1,w2,hrun,hown2,hb2⟩:=mR wr w.heap.size _ _ done q u HO (by omega) HB.size;have HR:=aa hrun;have nD:=aa hown2;have bS:=aa (HB.trans (hb2));clear hrun hown2 hb2;go_wp2_with (at_builtin;refine Lib.wpList_append_run _ rfl _ _ _ _ rfl _ _ rfl rfl _ _ HR.o ?_);go_ret;refine ⟨_,rfl,?_,bS⟩;rw[HF.o,List.length_append];exact nD.o
  have fN:(k:Int)<(N:Int):=by omega
  obtain ⟨s,hs⟩:=fx (l:=x) (k:=k) (by rw[HN.o];omega);obtain ⟨g,o,rfl,x1,x2⟩:=HA.o k s hs;have r1:=ae HB x1;have r2:=ae HB x2;have hd:x.drop k=s::x.drop (k+1):=by obtain ⟨hk2,hx⟩:=List.getElem?_eq_some_iff.1 hs;rw[List.drop_eq_getElem_cons hk2,hx]
  have uj:=HP.o;rw[hd,nT] at uj;have nU:=aa (show done.length+((if laid=false∧q≤s.1 then [(q,u)] else [])++(if s.1=q then [] else [s]):List ay).length≤N+1 by
   have h1:=qh x q u false;have h2:=HN.o;rw[uj] at h1;simp only[List.length_append,Bool.false_eq_true,if_false] at h1 ⊢;omega)
  have pK:=aa uj;have aU:=aa x1;have dV:=aa x2;clear hs hd uj x1 x2;by_cases sW:laid=false∧q≤s.1
  ·obtain ⟨rfl,hq⟩:=sW
   have BC:decide (q≤s.1)=true:=decide_eq_true hq;obtain ⟨g1,c1,w2,hrun,hown2,hb2⟩:=mR wr w.heap.size _ _ done q u HO (by omega) HB.size;have HR:=aa hrun;have nD:=aa hown2;have bS:=aa (HB.trans (hb2));have r3:=ae bS aU.o;have r4:=ae bS dV.o;have HQ:=aa hq;clear hrun hown2 hb2 hq;by_cases he:s.1=q
   ·have Yj:(s.1 != q)=false:=by rw[he];simp
    have HF:=aa (show fB x q u false=(done++[(q,u)])++fB (x.drop (k+1)) q u true by
     rw[pK.o,if_pos ⟨rfl,HQ⟩,if_pos he,decide_eq_true HQ.o];simp)
    have nP:=aa (show (done++[(q,u)]).length≤N+1 by have:=nU.o;rw[if_pos ⟨rfl,HQ⟩,if_pos he] at this;simpa using this);clear he;go_wp2_with (at_builtin;refine Lib.wpList_append_run _ rfl _ _ _ _ rfl _ _ rfl rfl _ _ HR.o ?_);go_roundw
    case rel=>refine ⟨k+1,true,done++[(q,u)],by omega,by go_num,rfl,HF.o,nP.o,?_,bS.o⟩;rw[List.length_append];exact nD.o
    case measure=>simp[intOf];omega
   ·have Yj:(s.1 != q)=true:=by rw[bne_iff_ne];exact he
    have HF:=aa (show fB x q u false=((done++[(q,u)])++[(s.1,s.2)])++fB (x.drop (k+1)) q u true by
     rw[pK.o,if_pos ⟨rfl,HQ⟩,if_neg he,decide_eq_true HQ.o];simp)
    have nP:=aa (show ((done++[(q,u)])++[(s.1,s.2)]).length≤N+1 by have:=nU.o;rw[if_pos ⟨rfl,HQ⟩,if_neg he] at this;simp at this ⊢;omega);obtain ⟨g2,c2,w3,hrun,lX,hb3⟩:=mR w2 w.heap.size _ _ (done++[(q,u)]) s.1 s.2 nD (by omega) bS.size;have jO:=aa hrun;have qi:=aa lX;have dF:=aa (bS.trans hb3);clear he hrun lX hb3;go_wp2_with (first|(at_builtin;refine Lib.wpList_append_run _ rfl (.tmp 28) (.tmp 32) _ _ rfl _ _ rfl rfl _ _ HR.o ?_)|(at_builtin;refine Lib.wpList_append_run _ rfl (.tmp 41) (.tmp 46) _ _ rfl _ _ rfl rfl _ _ jO.o ?_));go_roundw
    case rel=>refine ⟨k+1,true,(done++[(q,u)])++[(s.1,s.2)],by omega,by go_num,rfl,HF.o,nP.o,?_,dF.o⟩;rw[List.length_append,List.length_append];exact qi.o
    case measure=>simp[intOf];omega
  ·have HI:=aa sW
   have bS:=HB;have nD:=HO;have hc:laid=true∨(laid=false∧decide (q≤s.1)=false):=by
    cases laid
    ·exact .inr ⟨rfl,decide_eq_false fun h=>sW ⟨rfl,h⟩⟩
    ·exact .inl rfl
   have HL:=aa (show (laid || decide (q≤s.1))=laid by rcases hc with rfl|⟨rfl,h⟩ <;> simp[*]);clear sW;by_cases he:s.1=q
   ·have Yj:(s.1 != q)=false:=by rw[he];simp
    have HF:=aa (show fB x q u false=done++fB (x.drop (k+1)) q u laid by
     rw[pK.o,if_neg HI.o,if_pos he,HL.o];simp)
    clear he;rcases hc with rfl|⟨rfl,hq⟩
    all_goals
     go_wp2_with fail;go_roundw
     case rel=>exact ⟨k+1,_,done,by omega,by go_num,rfl,HF.o,wW,HO.o,HB.o⟩
     case measure=>simp[intOf];omega
   ·have Yj:(s.1 != q)=true:=by rw[bne_iff_ne];exact he
    have HF:=aa (show fB x q u false=(done++[(s.1,s.2)])++fB (x.drop (k+1)) q u laid by
     rw[pK.o,if_neg HI.o,if_neg he,HL.o];simp)
    have nP:=aa (show (done++[(s.1,s.2)]).length≤N+1 by have:=nU.o;rw[if_neg HI.o,if_neg he] at this;simpa using this);obtain ⟨g2,c2,w3,hrun,lX,hb3⟩:=mR wr w.heap.size _ _ done s.1 s.2 HO (by omega) HB.size;have jO:=aa hrun;have qi:=aa lX;have dF:=aa (HB.trans hb3);clear he hrun lX hb3;rcases hc with rfl|⟨rfl,hq⟩
    all_goals
     go_wp2_with (at_builtin;refine Lib.wpList_append_run _ rfl _ _ _ _ rfl _ _ rfl rfl _ _ jO.o ?_;clear jO);go_roundw
     case rel=>refine ⟨k+1,_,done++[(s.1,s.2)],by omega,by go_num,rfl,HF.o,nP.o,?_,dF.o⟩;rw[List.length_append];exact qi.o
     case measure=>simp[intOf];omega
def inB (x:ay) (f t:Int):Bool:=decide (f≤x.1)&&decide (x.1<t)
def cg (n:Int):Int:=if n≤0 then 0 else (n-1)/32+1
structure aB where
 chunk:Int
 pos:Int
 size:Int
 packed:Bool
deriving DecidableEq
def aB.agg (x:aB):Value:=.agg #[.int .i64 x.chunk,.int .i64 x.pos,.int .i64 x.size,.bool x.packed]
def aB.zero:aB:=⟨0,0,0,false⟩
def cO (x:aB):Bool:=decide (0≤x.chunk∧x.chunk≤999∧1≤x.size∧x.size≤256∧0≤x.pos∧x.pos+cg x.size≤16∧(x.packed=true∨x.size=256))
def bI (n:Int):aB:=⟨n/2/257/16,n/2/257%16,n/2%257,n%2==1⟩
def rX (n:Int):Bool:=decide (0≤n)&&cO (bI n)
def kr (x:aB):Int:=2*(257*(16*x.chunk+x.pos)+x.size)+if x.packed then 1 else 0
theorem iF (h0:1≤n) (h:n≤256):1≤cg n∧cg n≤8:=by unfold cg;rw[if_neg (by omega)];omega
theorem bL (x:aB):cO x=true↔0≤x.chunk∧x.chunk≤999∧1≤x.size∧x.size≤256∧0≤x.pos∧x.pos+cg x.size≤16∧(x.packed=true∨x.size=256):=by unfold cO;simp
theorem vA (x:aB):cO x=false↔¬(0≤x.chunk∧x.chunk≤999∧1≤x.size∧x.size≤256∧0≤x.pos∧x.pos+cg x.size≤16∧(x.packed=true∨x.size=256)):=by rw[← bL];simp
theorem Co (_h:0≤n):kr (bI n)=n:=by
 unfold kr bI;simp only;by_cases hp:n%2=1
 ·rw[if_pos (by simpa using hp)];omega
 ·rw[if_neg (by simpa using hp)];omega
theorem Cp (_h:0≤n):bI n=⟨n/8224,n/514%16,n/2%257,n%2==1⟩:=by unfold bI;congr 1 <;> omega
theorem qj {a:Bool} (h:a=b):Ending.returned (.bool a)=.returned (.bool b):=by rw[h]
theorem wX {a b:Int} (h:a=b):Ending.returned (.int .i64 a)=.returned (.int .i64 b):=by rw[h]
theorem FT (n:Int) (h0 : -1000000≤n) (h1:n≤1000000) (w:World):Calls prog 79 #[.int .i64 n] w fun e w'=>e=.returned (.int .i64 (cg n))∧w=w':=by
 by_cases h:n≤0
 ·have HS:=aa (show cg n=0 by unfold cg;rw[if_pos h])
  go_enter func79,ntmps79;go_wp2_with fail;go_ret;exact ⟨wX HS.symm,rfl⟩
 ·have HS:=aa (show cg n=(n-1)/32+1 by unfold cg;rw[if_neg h])
  go_enter func79,ntmps79;go_wp2_with fail;go_ret;exact ⟨wX HS.symm,rfl⟩
theorem UJ (x:aB) (h0 : -1000000≤x.size) (h1:x.size≤1000000) (w:World):Calls prog 29 #[x.agg] w fun e w'=>e=.returned (.int .i64 (cg x.size))∧Bw w w':=by obtain ⟨c,p,s,b⟩:=x;simp only[aB.agg];simp only at h0 h1;go_enter func29,ntmps29;go_wp2_with fail;refine (FT s h0 h1 _).mono ?_;rintro e w1 ⟨rfl,rfl⟩;go_wp2_with fail;go_ret;exact ⟨rfl,ar⟩
theorem wY (c p s L:Int) (b:Bool) (h0 : -1000000≤s) (h1:s≤1000000) (hL:cg s=L) (w:World):Calls prog 29 #[.agg #[.int .i64 c,.int .i64 p,.int .i64 s,.bool b]] w fun e w'=>e=.returned (.int .i64 L)∧Bw w w':=by subst hL;exact UJ ⟨c,p,s,b⟩ h0 h1 w
def kT (g:Nat) (c p s:Int) (b:Bool) (w:World):Prop:=w.cell? ⟨g,0,none⟩=some (.int .i64 c)∧w.cell? ⟨g,1,none⟩=some (.int .i64 p)∧w.cell? ⟨g,2,none⟩=some (.int .i64 s)∧w.cell? ⟨g,3,none⟩=some (.bool b)
theorem eK (hb:Bw W W') {a:Addr} (h:W.cell? a=some v):W'.cell? a=some v:=(hb.cell (World.block_lt_of_cell? W _ h)).trans h
theorem kT.below {c p s:Int} (h:kT g c p s b w) (hb:Bw w w'):kT g c p s b w':=⟨eK hb h.1,eK hb h.2.1,eK hb h.2.2.1,eK hb h.2.2.2⟩
theorem oL (x:aB) (w:World):Calls prog 80 #[x.agg] w fun e w'=>e=.returned (.bool (cO x))∧Bw w w':=by
 obtain ⟨c,p,s,b⟩:=x;simp only[aB.agg];have hb1:Bw w (w.alloc (.cells #[.int .i64 c,.int .i64 p,.int .i64 s,.bool b] 50)):=ar;have HB:=aa hb1;clear hb1;by_cases h1:0≤c∧c≤999∧1≤s∧s≤256
 case neg=>
  have HF:=aa (show cO ⟨c,p,s,b⟩=false from (vA _).2 (fun h=>h1 ⟨h.1,h.2.1,h.2.2.1,h.2.2.2.1⟩));have hc:c<0∨(¬c<0∧1000≤c)∨(¬c<0∧¬1000≤c∧s<1)∨(¬c<0∧¬1000≤c∧¬s<1∧256<s):=by omega
  clear h1;rcases hc with g1|⟨g1,g2⟩|⟨g1,g2,g3⟩|⟨g1,g2,g3,g4⟩
  all_goals
   go_enter func80,ntmps80;go_wp2_with fail;go_ret;exact ⟨qj HF.symm,HB⟩
 obtain ⟨k1,k2,k3,k4⟩:=h1;have g1:¬c<0:=by omega
 have g2:¬1000≤c:=by omega
 have g3:¬s<1:=by omega
 have g4:¬256<s:=by omega
 have QD:=iF k3 k4;by_cases h5:p<0
 ·have HF:=aa (show cO ⟨c,p,s,b⟩=false from (vA _).2 (fun h=>by have:=h.2.2.2.2.1;simp only at this;omega))
  have d5:decide (p<0)=true:=by simpa using h5
  go_enter func80,ntmps80;go_wp2_with fail;go_quiet (fail);go_wp2_with fail;go_ret;exact ⟨qj HF.symm,az HB _⟩
 have d5:decide (p<0)=false:=by simpa using h5
 have hlr:w.heap.size<(w.alloc (.cells #[.int .i64 c,.int .i64 p,.int .i64 s,.bool b] 50)).heap.size:=by simp
 obtain ⟨W1,hW1⟩:=aG (w.alloc (.cells #[.int .i64 c,.int .i64 p,.int .i64 s,.bool b] 50));have HC:=aa (show kT w.heap.size c p s b W1 by rw[← hW1];exact ⟨by simp,by simp,by simp,by simp⟩);rw[hW1] at HB hlr;obtain ⟨q0,q1,q2,q3⟩:=HC.o;have um:(16<p+cg s)∨(p+cg s≤16∧b=true)∨(p+cg s≤16∧b=false∧s=256)∨(p+cg s≤16∧b=false∧(s==256)=false):=by
  by_cases hx:16<p+cg s
  ·exact .inl hx
  ·cases b
   ·by_cases hs:s=256
    ·exact .inr (.inr (.inl ⟨by omega,rfl,hs⟩))
    ·exact .inr (.inr (.inr ⟨by omega,rfl,by simpa using hs⟩))
   ·exact .inr (.inl ⟨by omega,rfl⟩)
 have HV:Hid (cO ⟨c,p,s,b⟩=true↔p+cg s≤16∧(b=true∨s=256)):=by rw[Hid,bL];simp only;exact ⟨fun h=>⟨h.2.2.2.2.2.1,h.2.2.2.2.2.2⟩,fun h=>⟨k1,k2,k3,k4,by omega,h.1,h.2⟩⟩
 obtain ⟨L,hL⟩:=aG (cg s);rw[hL] at um QD HV;have nV:=aa hL;clear hL;have hwr:IntKind.i64.wrap (16-L)=16-L:=IntWalk.i64_in _ (by omega);rcases um with h|⟨h,rfl⟩|⟨h,rfl,rfl⟩|⟨h,rfl,hse⟩
 ·have hd:decide (16-L<p)=true:=by simp;omega
  go_enter func80,ntmps80;go_upto_region 3 with fail;go_region_held3 (fun w'=>w'.cell? ⟨w.heap.size,0,none⟩=some (.int .i64 c)∧w'.cell? ⟨w.heap.size,1,none⟩=some (.int .i64 p)∧w'.cell? ⟨w.heap.size,2,none⟩=some (.int .i64 s)∧w'.cell? ⟨w.heap.size,3,none⟩=some (.bool b))
   (first|exact sX.o|exact HC.o)
   (first|(go_at_call 29;refine (wY c p s _ b (by omega) (by omega) nV.o _).mono ?_;rintro e w2 ⟨rfl,hb⟩;have sX:=aa (kT.below (show kT w.heap.size c p s b W1.drew from HC.o) hb);have aY:=aa (ak HB.o.drew hb);clear hb))
  go_wp2_with fail;go_ret;refine ⟨qj ?_,aY⟩;symm;rw[← Bool.not_eq_true,HV.o];omega
 ·have hd:decide (16-L<p)=false:=by simp;omega
  go_enter func80,ntmps80;go_upto_region 3 with fail;go_region_held3 (fun w'=>w'.cell? ⟨w.heap.size,0,none⟩=some (.int .i64 c)∧w'.cell? ⟨w.heap.size,1,none⟩=some (.int .i64 p)∧w'.cell? ⟨w.heap.size,2,none⟩=some (.int .i64 s)∧w'.cell? ⟨w.heap.size,3,none⟩=some (.bool true))
   (first|exact sX.o|exact HC.o)
   (first|(go_at_call 29;refine (wY c p s _ true (by omega) (by omega) nV.o _).mono ?_;rintro e w2 ⟨rfl,hb⟩;have sX:=aa (kT.below (show kT w.heap.size c p s true W1.drew from HC.o) hb);have aY:=aa (ak HB.o.drew hb);clear hb))
  go_wp2_with fail;go_ret;exact ⟨qj ((HV).2 ⟨by omega,by simp⟩).symm,aY⟩
 ·have hd:decide (16-L<p)=false:=by simp;omega
  go_enter func80,ntmps80;go_upto_region 3 with fail;go_region_held3 (fun w'=>w'.cell? ⟨w.heap.size,0,none⟩=some (.int .i64 c)∧w'.cell? ⟨w.heap.size,1,none⟩=some (.int .i64 p)∧w'.cell? ⟨w.heap.size,2,none⟩=some (.int .i64 256)∧w'.cell? ⟨w.heap.size,3,none⟩=some (.bool false))
   (first|exact sX.o|exact HC.o)
   (first|(go_at_call 29;refine (wY c p 256 _ false (by omega) (by omega) nV.o _).mono ?_;rintro e w2 ⟨rfl,hb⟩;have sX:=aa (kT.below (show kT w.heap.size c p 256 false W1.drew from HC.o) hb);have aY:=aa (ak HB.o.drew hb);clear hb))
  go_wp2_with fail;go_ret;exact ⟨qj ((HV).2 ⟨by omega,by simp⟩).symm,aY⟩
 ·have hd:decide (16-L<p)=false:=by simp;omega
  go_enter func80,ntmps80;go_upto_region 3 with fail;go_region_held3 (fun w'=>w'.cell? ⟨w.heap.size,0,none⟩=some (.int .i64 c)∧w'.cell? ⟨w.heap.size,1,none⟩=some (.int .i64 p)∧w'.cell? ⟨w.heap.size,2,none⟩=some (.int .i64 s)∧w'.cell? ⟨w.heap.size,3,none⟩=some (.bool false))
   (first|exact sX.o|exact HC.o)
   (first|(go_at_call 29;refine (wY c p s _ false (by omega) (by omega) nV.o _).mono ?_;rintro e w2 ⟨rfl,hb⟩;have sX:=aa (kT.below (show kT w.heap.size c p s false W1.drew from HC.o) hb);have aY:=aa (ak HB.o.drew hb);clear hb))
  go_wp2_with fail;go_ret;refine ⟨qj ?_,aY⟩;symm;rw[← Bool.not_eq_true,HV.o];intro hq;rcases hq.2 with BC|BC;cases BC;subst BC;simp at hse
def JL (n:Int):aB:=if rX n=true then bI n else aB.zero
theorem vB (n:Int) (_h1 : -9223372036854775808≤n) (h2:n≤9223372036854775807) (w:World):Calls prog 75 #[.int .i64 n] w fun e w'=>e=.returned (.tuple #[(JL n).agg,.bool (rX n)])∧Bw w w':=by
 by_cases h0:n<0
 ·have HF:=aa (show rX n=false by unfold rX;simp;omega)
  go_enter func75,ntmps75;go_wp2_with fail;refine bodyPost_ret (v:=.tuple #[aB.zero.agg,.bool false]) (by simp[results,results75,go_sem,aB.agg,aB.zero]) rfl ⟨by unfold JL;rw[HF.o];rfl,ar⟩
 have BN:0≤n:=by omega
 obtain ⟨b,hb⟩:=aG (cO (bI n));have Jl:=aa (show rX n=b by unfold rX;rw[hb];simp;intro _;omega);have HR:=aa hb;clear hb;go_enter func75,ntmps75;go_wp2_with fail;refine (oL (bI n) _).mono ?_;rintro e w1 ⟨rfl,hb⟩;rw[HR.o];have q0:w1.cell? ⟨w.heap.size,0,none⟩=some (.int .i64 0):=eK hb (by simp);have q1:w1.cell? ⟨w.heap.size,1,none⟩=some (.int .i64 0):=eK hb (by simp);have q2:w1.cell? ⟨w.heap.size,2,none⟩=some (.int .i64 0):=eK hb (by simp);have q3:w1.cell? ⟨w.heap.size,3,none⟩=some (.bool false):=eK hb (by simp);have p0:w1.cell? ⟨w.heap.size+1,0,none⟩=some (.int .i64 (n/2/257/16)):=eK hb (by simp);have p1:w1.cell? ⟨w.heap.size+1,1,none⟩=some (.int .i64 (n/2/257%16)):=eK hb (by simp);have p2:w1.cell? ⟨w.heap.size+1,2,none⟩=some (.int .i64 (n/2%257)):=eK hb (by simp);have p3:w1.cell? ⟨w.heap.size+1,3,none⟩=some (.bool (n%2==1)):=eK hb (by simp);have f0:w1.frozen? ⟨w.heap.size,0,none⟩=false:=(hb.frozen (p:=⟨w.heap.size,0,none⟩) (by simp;omega)).trans (by simp);have f1:w1.frozen? ⟨w.heap.size,1,none⟩=false:=(hb.frozen (p:=⟨w.heap.size,1,none⟩) (by simp;omega)).trans (by simp);have f2:w1.frozen? ⟨w.heap.size,2,none⟩=false:=(hb.frozen (p:=⟨w.heap.size,2,none⟩) (by simp;omega)).trans (by simp);have f3:w1.frozen? ⟨w.heap.size,3,none⟩=false:=(hb.frozen (p:=⟨w.heap.size,3,none⟩) (by simp;omega)).trans (by simp);have hl:w.heap.size+1<w1.heap.size:=by have:=hb.size;simp at this;omega
 have HB:=aa (ak (((Below.refl w.heap.size w).alloc aT _).alloc (by simp) _) hb);clear hb;cases b
 ·go_wp2_with fail
  refine bodyPost_ret (v:=.tuple #[aB.zero.agg,.bool false]) (by simp[results,results75,go_sem,aB.agg,aB.zero,q0,q1,q2,q3];try omega) rfl ⟨by unfold JL;rw[Jl.o];rfl,?_⟩;exact (((HB.o.setCell aT _).setCell aT _).setCell aT _).setCell aT _
 ·go_wp2_with fail
  refine bodyPost_ret (v:=.tuple #[(bI n).agg,.bool true]) (by simp[results,results75,go_sem,aB.agg,bI,q0,q1,q2,q3];try omega) rfl ⟨by unfold JL;rw[Jl.o];rfl,?_⟩;exact (((HB.o.setCell aT _).setCell aT _).setCell aT _).setCell aT _
theorem uo (n:Int) (h0 : -1000000≤n) (h1:n≤1000000) (w:World):Calls prog 91 #[.int .i64 n] w fun e w'=>e=.returned (.int .i64 (cg n))∧w=w':=by
 by_cases h:n≤0
 ·have HS:=aa (show cg n=0 by unfold cg;rw[if_pos h])
  go_enter func91,ntmps91;go_wp2_with fail;go_ret;exact ⟨wX HS.symm,rfl⟩
 ·have HS:=aa (show cg n=(n-1)/32+1 by unfold cg;rw[if_neg h])
  go_enter func91,ntmps91;go_wp2_with fail;go_ret;exact ⟨wX HS.symm,rfl⟩
theorem sY (c p s L:Int) (b:Bool) (h0 : -1000000≤s) (h1:s≤1000000) (hL:cg s=L) (w:World):Calls prog 38 #[.agg #[.int .i64 c,.int .i64 p,.int .i64 s,.bool b]] w fun e w'=>e=.returned (.int .i64 L)∧Bw w w':=by subst hL;go_enter func38,ntmps38;go_wp2_with fail;refine (uo s h0 h1 _).mono ?_;rintro e w1 ⟨rfl,rfl⟩;go_wp2_with fail;go_ret;exact ⟨rfl,ar⟩
theorem wZ (x:aB) (w:World):Calls prog 97 #[x.agg] w fun e w'=>e=.returned (.bool (cO x))∧Bw w w':=by
 obtain ⟨c,p,s,b⟩:=x;simp only[aB.agg];have hb1:Bw w (w.alloc (.cells #[.int .i64 c,.int .i64 p,.int .i64 s,.bool b] 50)):=ar;have HB:=aa hb1;clear hb1;by_cases h1:0≤c∧c≤999∧1≤s∧s≤256∧0≤p∧p≤16
 case neg=>
  have HF:=aa (show cO ⟨c,p,s,b⟩=false from (vA _).2 (fun h=>h1 ⟨h.1,h.2.1,h.2.2.1,h.2.2.2.1,h.2.2.2.2.1,by have h3:=iF h.2.2.1 h.2.2.2.1;have h4:=h.2.2.2.2.2.1;simp only at h3 h4;omega⟩));have hc:(decide (c<0)=true)∨(decide (c<0)=false∧decide (999<c)=true)∨(decide (c<0)=false∧decide (999<c)=false∧decide (s<1)=true)∨(decide (c<0)=false∧decide (999<c)=false∧decide (s<1)=false∧decide (256<s)=true)∨(decide (c<0)=false∧decide (999<c)=false∧decide (s<1)=false∧decide (256<s)=false∧decide (p<0)=true)∨(decide (c<0)=false∧decide (999<c)=false∧decide (s<1)=false∧decide (256<s)=false∧decide (p<0)=false∧decide (16<p)=true):=by simp only[decide_eq_true_eq,decide_eq_false_iff_not];omega
  clear h1;rcases hc with g0|⟨g0,g1⟩|⟨g0,g1,g2⟩|⟨g0,g1,g2,g3⟩|⟨g0,g1,g2,g3,g4⟩|⟨g0,g1,g2,g3,g4,g5⟩
  all_goals
   go_enter func97,ntmps97;go_wp2_with fail;go_quiet (fail);go_wp2_with fail;go_ret;exact ⟨qj HF.symm,az HB _⟩
 obtain ⟨k1,k2,k3,k4,k5,k6⟩:=h1;have g0:decide (c<0)=false:=by simp;omega
 have g1:decide (999<c)=false:=by simp;omega
 have g2:decide (s<1)=false:=by simp;omega
 have g3:decide (256<s)=false:=by simp;omega
 have g4:decide (p<0)=false:=by simp;omega
 have g5:decide (16<p)=false:=by simp;omega
 have QD:=iF k3 k4;have hlr:w.heap.size<(w.alloc (.cells #[.int .i64 c,.int .i64 p,.int .i64 s,.bool b] 50)).heap.size:=by simp
 obtain ⟨W1,hW1⟩:=aG (w.alloc (.cells #[.int .i64 c,.int .i64 p,.int .i64 s,.bool b] 50));have HC:=aa (show kT w.heap.size c p s b W1 by rw[← hW1];exact ⟨by simp,by simp,by simp,by simp⟩);rw[hW1] at HB hlr;obtain ⟨q0,q1,q2,q3⟩:=HC.o;have um:(16<p+cg s)∨(p+cg s≤16∧b=true)∨(p+cg s≤16∧b=false∧s=256)∨(p+cg s≤16∧b=false∧(s==256)=false):=by
  by_cases hx:16<p+cg s
  ·exact .inl hx
  ·cases b
   ·by_cases hs:s=256
    ·exact .inr (.inr (.inl ⟨by omega,rfl,hs⟩))
    ·exact .inr (.inr (.inr ⟨by omega,rfl,by simpa using hs⟩))
   ·exact .inr (.inl ⟨by omega,rfl⟩)
 have HV:Hid (cO ⟨c,p,s,b⟩=true↔p+cg s≤16∧(b=true∨s=256)):=by rw[Hid,bL];simp only;exact ⟨fun h=>⟨h.2.2.2.2.2.1,h.2.2.2.2.2.2⟩,fun h=>⟨k1,k2,k3,k4,k5,h.1,h.2⟩⟩
 obtain ⟨L,hL⟩:=aG (cg s);rw[hL] at um QD HV;have nV:=aa hL;clear hL;have hwr:IntKind.i64.wrap (p+L)=p+L:=IntWalk.i64_in _ (by omega);rcases um with h|⟨h,rfl⟩|⟨h,rfl,rfl⟩|⟨h,rfl,hse⟩
 ·have hd:decide (16<p+L)=true:=by simp;omega
  go_enter func97,ntmps97;go_upto_region 1 with fail;go_region_held3 (fun w'=>w'.cell? ⟨w.heap.size,0,none⟩=some (.int .i64 c)∧w'.cell? ⟨w.heap.size,1,none⟩=some (.int .i64 p)∧w'.cell? ⟨w.heap.size,2,none⟩=some (.int .i64 s)∧w'.cell? ⟨w.heap.size,3,none⟩=some (.bool b))
   (first|exact sX.o|exact HC.o)
   (first|(go_at_call 38;refine (sY c p s _ b (by omega) (by omega) nV.o _).mono ?_;rintro e w2 ⟨rfl,hb⟩;have sX:=aa (kT.below (show kT w.heap.size c p s b W1.drew from HC.o) hb);have aY:=aa (ak HB.o.drew hb);clear hb))
  go_wp2_with fail;go_ret;refine ⟨qj ?_,aY⟩;symm;rw[← Bool.not_eq_true,HV.o];omega
 ·have hd:decide (16<p+L)=false:=by simp;omega
  go_enter func97,ntmps97;go_upto_region 1 with fail;go_region_held3 (fun w'=>w'.cell? ⟨w.heap.size,0,none⟩=some (.int .i64 c)∧w'.cell? ⟨w.heap.size,1,none⟩=some (.int .i64 p)∧w'.cell? ⟨w.heap.size,2,none⟩=some (.int .i64 s)∧w'.cell? ⟨w.heap.size,3,none⟩=some (.bool true))
   (first|exact sX.o|exact HC.o)
   (first|(go_at_call 38;refine (sY c p s _ true (by omega) (by omega) nV.o _).mono ?_;rintro e w2 ⟨rfl,hb⟩;have sX:=aa (kT.below (show kT w.heap.size c p s true W1.drew from HC.o) hb);have aY:=aa (ak HB.o.drew hb);clear hb))
  go_wp2_with fail;go_ret;exact ⟨qj ((HV).2 ⟨by omega,by simp⟩).symm,aY⟩
 ·have hd:decide (16<p+L)=false:=by simp;omega
  go_enter func97,ntmps97;go_upto_region 1 with fail;go_region_held3 (fun w'=>w'.cell? ⟨w.heap.size,0,none⟩=some (.int .i64 c)∧w'.cell? ⟨w.heap.size,1,none⟩=some (.int .i64 p)∧w'.cell? ⟨w.heap.size,2,none⟩=some (.int .i64 256)∧w'.cell? ⟨w.heap.size,3,none⟩=some (.bool false))
   (first|exact sX.o|exact HC.o)
   (first|(go_at_call 38;refine (sY c p 256 _ false (by omega) (by omega) nV.o _).mono ?_;rintro e w2 ⟨rfl,hb⟩;have sX:=aa (kT.below (show kT w.heap.size c p 256 false W1.drew from HC.o) hb);have aY:=aa (ak HB.o.drew hb);clear hb))
  go_wp2_with fail;go_ret;exact ⟨qj ((HV).2 ⟨by omega,by simp⟩).symm,aY⟩
 ·have hd:decide (16<p+L)=false:=by simp;omega
  go_enter func97,ntmps97;go_upto_region 1 with fail;go_region_held3 (fun w'=>w'.cell? ⟨w.heap.size,0,none⟩=some (.int .i64 c)∧w'.cell? ⟨w.heap.size,1,none⟩=some (.int .i64 p)∧w'.cell? ⟨w.heap.size,2,none⟩=some (.int .i64 s)∧w'.cell? ⟨w.heap.size,3,none⟩=some (.bool false))
   (first|exact sX.o|exact HC.o)
   (first|(go_at_call 38;refine (sY c p s _ false (by omega) (by omega) nV.o _).mono ?_;rintro e w2 ⟨rfl,hb⟩;have sX:=aa (kT.below (show kT w.heap.size c p s false W1.drew from HC.o) hb);have aY:=aa (ak HB.o.drew hb);clear hb))
  go_wp2_with fail;go_ret;refine ⟨qj ?_,aY⟩;symm;rw[← Bool.not_eq_true,HV.o];intro hq;rcases hq.2 with BC|BC;cases BC;subst BC;simp at hse
def cD (x:aB):Int:=if cO x=true then kr x else -1
theorem FU (x:aB) (w:World):Calls prog 44 #[x.agg] w fun e w'=>e=.returned (.int .i64 (cD x))∧Bw w w':=by
 obtain ⟨c,p,s,b⟩:=x;simp only[aB.agg];have HB:=aa (show Bw w (w.alloc (.cells #[.int .i64 c,.int .i64 p,.int .i64 s,.bool b] 50)) from ar);have HC:=aa (show kT w.heap.size c p s b (w.alloc (.cells #[.int .i64 c,.int .i64 p,.int .i64 s,.bool b] 50)) from ⟨by simp,by simp,by simp,by simp⟩);by_cases hm:cO ⟨c,p,s,b⟩=true
 ·have HV:=aa (show cD ⟨c,p,s,b⟩=kr ⟨c,p,s,b⟩ by unfold cD;rw[if_pos hm])
  have hi:=(bL _).1 hm;have HM:=aa hm;clear hm;obtain ⟨k1,k2,k3,k4,k5,k6,_⟩:=hi;simp only at k1 k2 k3 k4 k5 k6;have QD:=iF k3 k4;have k6':p≤16:=by omega
  clear k6;go_enter func44,ntmps44;go_wp2_with fail;refine (wZ ⟨c,p,s,b⟩ _).mono ?_;rintro e w1 ⟨rfl,hb⟩;rw[HM.o];have aY:=bh HB hb;obtain ⟨q0,q1,q2,q3⟩:=HC.below hb;have hl:=World.block_lt_of_cell? _ _ q0;clear hb;cases b
  all_goals
   go_wp2_with fail;go_ret;refine ⟨wX ?_,aY⟩;rw[HV.o];unfold kr;simp;try omega
 ·have HV:=aa (show cD ⟨c,p,s,b⟩ = -1 by unfold cD;rw[if_neg hm])
  have HM:=aa (show cO ⟨c,p,s,b⟩=false by simpa using hm);clear hm;go_enter func44,ntmps44;go_wp2_with fail;refine (wZ ⟨c,p,s,b⟩ _).mono ?_;rintro e w1 ⟨rfl,hb⟩;rw[HM.o];have aY:=bh HB hb;clear hb;go_wp2_with fail;go_ret;exact ⟨wX HV.symm,aY⟩
theorem UK (h:0≤n):rX n=(cD (bI n)==n):=by
 unfold rX cD;by_cases hm:cO (bI n)=true
 ·rw[if_pos hm,Co h,hm];simp[h]
 ·rw[if_neg hm]
  have:cO (bI n)=false:=by simpa using hm
  rw[this];simp;omega
theorem zo (n:Int) (_h1 : -9223372036854775808≤n) (h2:n≤9223372036854775807) (w:World):Calls prog 36 #[.int .i64 n] w fun e w'=>e=.returned (.tuple #[(JL n).agg,.bool (rX n)])∧Bw w w':=by
 by_cases h0:n<0
 ·have HF:=aa (show rX n=false by unfold rX;simp;omega)
  go_enter func36,ntmps36;go_wp2_with fail;refine bodyPost_ret (v:=.tuple #[aB.zero.agg,.bool false]) (by simp[results,results36,go_sem,aB.agg,aB.zero]) rfl ⟨by unfold JL;rw[HF.o];rfl,ar⟩
 have BN:0≤n:=by omega
 obtain ⟨b,hb⟩:=aG (rX n);have hq:(cD (bI n) != n)=!b:=by rw[← hb,UK BN];rfl
 have Jl:=aa hb;have QE:=aa (Cp BN);obtain ⟨N,hN⟩:=aG (cD (bI n));rw[hN] at hq;have HN:=aa (show cD ⟨n/8224,n/514%16,n/2%257,n%2==1⟩=N by rw[← QE.o];exact hN);clear hb hN;go_enter func36,ntmps36;go_wp2_with fail;refine (FU ⟨n/8224,n/514%16,n/2%257,n%2==1⟩ _).mono ?_;rintro e w1 ⟨rfl,hb⟩;rw[HN.o];have q0:w1.cell? ⟨w.heap.size,0,none⟩=some (.int .i64 0):=eK hb (by simp);have q1:w1.cell? ⟨w.heap.size,1,none⟩=some (.int .i64 0):=eK hb (by simp);have q2:w1.cell? ⟨w.heap.size,2,none⟩=some (.int .i64 0):=eK hb (by simp);have q3:w1.cell? ⟨w.heap.size,3,none⟩=some (.bool false):=eK hb (by simp);have p0:w1.cell? ⟨w.heap.size+1,0,none⟩=some (.int .i64 (n/8224)):=eK hb (by simp);have p1:w1.cell? ⟨w.heap.size+1,1,none⟩=some (.int .i64 (n/514%16)):=eK hb (by simp);have p2:w1.cell? ⟨w.heap.size+1,2,none⟩=some (.int .i64 (n/2%257)):=eK hb (by simp);have p3:w1.cell? ⟨w.heap.size+1,3,none⟩=some (.bool (n%2==1)):=eK hb (by simp);have f0:w1.frozen? ⟨w.heap.size,0,none⟩=false:=(hb.frozen (p:=⟨w.heap.size,0,none⟩) (by simp;omega)).trans (by simp);have f1:w1.frozen? ⟨w.heap.size,1,none⟩=false:=(hb.frozen (p:=⟨w.heap.size,1,none⟩) (by simp;omega)).trans (by simp);have f2:w1.frozen? ⟨w.heap.size,2,none⟩=false:=(hb.frozen (p:=⟨w.heap.size,2,none⟩) (by simp;omega)).trans (by simp);have f3:w1.frozen? ⟨w.heap.size,3,none⟩=false:=(hb.frozen (p:=⟨w.heap.size,3,none⟩) (by simp;omega)).trans (by simp);have hl:w.heap.size+1<w1.heap.size:=by have:=hb.size;simp at this;omega
 have HB:=aa (ak (((Below.refl w.heap.size w).alloc aT _).alloc (by simp) _) hb);clear hb;cases b
 ·simp only[Bool.not_false] at hq
  go_wp2_with fail;refine bodyPost_ret (v:=.tuple #[aB.zero.agg,.bool false]) (by simp[results,results36,go_sem,aB.agg,aB.zero,q0,q1,q2,q3];try omega) rfl ⟨by unfold JL;rw[Jl.o];rfl,?_⟩;exact (((HB.setCell aT _).setCell aT _).setCell aT _).setCell aT _
 ·simp only[Bool.not_true] at hq
  go_wp2_with fail;refine bodyPost_ret (v:=.tuple #[(aB.mk (n/8224) (n/514%16) (n/2%257) (n%2==1)).agg,.bool true]) (by simp[results,results36,go_sem,aB.agg,q0,q1,q2,q3];try omega) rfl ⟨by unfold JL;rw[Jl.o,← QE.o];rfl,?_⟩;exact (((HB.setCell aT _).setCell aT _).setCell aT _).setCell aT _
def dG (size:Int) (x:ay):Bool:=rX x.2&&decide (0≤x.1∧x.1<size)
def cE (d:dx):Bool:=decide (1≤d.id∧d.id≤1000∧0≤d.size∧d.size≤100000)&&jN d.map&&(aA d.map).all (dG d.size)
def QF (l:List dx):Prop:=∀i x y,l[i]?=some x→l[i+1]?=some y→x.id<y.id
def pL (g:Nat) (a b x y z:Value) (w:World):Prop:=w.cell? ⟨g,0,none⟩=some a∧w.cell? ⟨g,1,none⟩=some b∧w.cell? ⟨g,2,none⟩=some x∧w.cell? ⟨g,3,none⟩=some y∧w.cell? ⟨g,4,none⟩=some z
theorem pL.below {a b:Value} (h:pL g a b x y z w) (hb:Bw w w'):pL g a b x y z w':=
 ⟨ae hb h.1,ae hb h.2.1,ae hb h.2.2.1,ae hb h.2.2.2.1,ae hb h.2.2.2.2⟩
def dK (t:ag):Prop:=(aA t).length≤2000
theorem vC {d:dx} {x:ay} (h:(aA d.map)[i]?=some x) (hx:dG d.size x=false):cE d=false:=by unfold cE;rw[show (aA d.map).all (dG d.size)=false from List.all_eq_false.2 ⟨x,List.mem_of_getElem? h,by rw[hx];simp⟩,Bool.and_false]
theorem lY (d:dx) (v:Value) (w:World) (hv:ve w v d) (hlen:dK d.map):Calls prog 140 #[v] w fun e w'=>e=.returned (.bool (cE d))∧Bw w w':=by
 obtain ⟨a,b,c,rfl,hi,hsz,hn⟩:=hv;have fI:Bw w (w.alloc (.cells #[.int .i64 d.id,.int .i64 d.size,a,b,c] 75)):=ar;have HN:=aa (hn.keep (af fI));have HB:=aa fI;have HLEN:=aa hlen;have QG:=aa (nS _ hn);obtain ⟨⟨pa,ca,rfl,_,_,_⟩,⟨pb,cb,rfl,_,_,_⟩,⟨pc,cc,rfl,_,_,_⟩⟩:=bA.1 hn;obtain ⟨KA,hKA⟩:∃K,d.map.keys.length=K:=⟨_,rfl⟩
 obtain ⟨KB,hKB⟩:∃K,d.map.vals.length=K:=⟨_,rfl⟩
 obtain ⟨KC,hKC⟩:∃K,d.map.kids.length=K:=⟨_,rfl⟩
 rw[hKA,hKB,hKC] at HN HB ⊢;clear hn fI hlen hi hsz hKA hKB hKC;obtain ⟨I,hI⟩:=aG d.id;obtain ⟨S,hS⟩:=aG d.size;have xe:=aa (show cE d=(decide (1≤I∧I≤1000∧0≤S∧S≤100000)&&jN d.map&&(aA d.map).all (dG S)) by unfold cE;rw[hI,hS]);have zq:=aa hS;rw[hI,hS] at HN HB ⊢;clear hI hS;by_cases hA:1≤I∧I≤1000∧0≤S∧S≤100000
 case neg=>
  have HF:=aa (show cE d=false by rw[xe.o,decide_eq_false hA];simp);have hc:(decide (I<1)=true)∨(decide (I<1)=false∧decide (1000<I)=true)∨(decide (I<1)=false∧decide (1000<I)=false∧decide (S<0)=true)∨(decide (I<1)=false∧decide (1000<I)=false∧decide (S<0)=false∧decide (100000<S)=true):=by simp only[decide_eq_true_eq,decide_eq_false_iff_not];omega
  clear hA;rcases hc with h1|⟨h1,h2⟩|⟨h1,h2,h3⟩|⟨h1,h2,h3,h4⟩
  all_goals
   go_enter func140,ntmps140;go_wp2_with fail;go_ret;exact ⟨aN HF.symm,HB⟩
 have BO:=aa (show cE d=(jN d.map&&(aA d.map).all (dG S)) by rw[xe.o,decide_eq_true hA];simp);have h1:decide (I<1)=false:=by simp only[decide_eq_false_iff_not];omega
 have h2:decide (1000<I)=false:=by simp only[decide_eq_false_iff_not];omega
 have h3:decide (S<0)=false:=by simp only[decide_eq_false_iff_not];omega
 have h4:decide (100000<S)=false:=by simp only[decide_eq_false_iff_not];omega
 have HA:=aa hA;clear hA xe;go_enter func140,ntmps140;go_wp2_with fail;refine (JK d.map _ _ _ _ HN (by have:=HLEN.o;unfold dK at this;omega)).mono ?_;rintro e w1 ⟨rfl,hb⟩;have aY:=bh HB hb;have HN1:=aa (HN.keep (af hb));have aU:=aa (show pL w.heap.size (.int .i64 I) (.int .i64 S) (.slice pa KA ca) (.slice pb KB cb) (.slice pc KC cc) w1 from pL.below ⟨by simp,by simp,by simp,by simp,by simp⟩ hb);clear hb h1 h2 h3 h4;obtain ⟨q0,q1,q2,q3,q4⟩:=aU.o;have hlx:=World.block_lt_of_cell? _ _ q0;cases hm:jN d.map with
 |false=>have HF:=aa (show cE d=false by rw[BO.o,hm];simp);clear hm;go_wp2_with fail;go_ret;exact ⟨aN HF.symm,aY⟩
 |true=>
  have jO:=aa (show cE d=(aA d.map).all (dG S) by rw[BO.o,hm];simp);clear hm;go_wp2_with fail;refine (kq d.map _ _ _ _ HN1 (by have:=HLEN.o;unfold dK at this;omega)).mono ?_;rintro e w2 ⟨v2,rfl,hrow,hb⟩;obtain ⟨p,cp,rfl,_,hcm,hcs⟩:=eC hrow;have bS:=bh aY hb;have dV:=aa (aU.below hb);have QC:=aa hcs;have pC:=HLEN.o;unfold dK at pC;obtain ⟨l,hl⟩:=aG (aA d.map);have HPE:=aa hl;rw[hl] at QC jO QG pC ⊢;obtain ⟨N,hN⟩:=aG l.length;rw[hN] at pC ⊢;have ll:=aa hN;clear hb hrow hcs hl hN q0 q1 q2 q3 q4 hlx hcm;go_wp2_with fail;go_loopw [4] (fun i wr=>∃k:Nat,k≤N∧i=.int .i64 k∧(∀(j:Nat) x,j<k→l[j]?=some x→dG S x=true)∧Bw w2 wr) (fun i _=>N-(intOf i).toNat)
  case atStart=>exact ⟨0,dO,rfl,fun j x hj=>by omega,aH⟩
  case round=>
   obtain ⟨k,hk,rfl,hall,hb⟩:=hrel;have ed:=aa hall;have zr:=aa hb;clear hall hb;by_cases hlt:k<N
   case neg=>
    obtain rfl:k=N:=by omega
    have HF:=aa (show cE d=true by
     rw[jO.o,List.all_eq_true];intro x hx;obtain ⟨j,hj⟩:=List.mem_iff_getElem?.1 hx;exact ed j x (by have:=(List.getElem?_eq_some_iff.1 hj).1;have:=ll.o;omega) hj)
    go_wp2_with fail;go_ret;exact ⟨aN HF.symm,ak bS zr⟩
   have fN:(k:Int)<(N:Int):=(by omega);obtain ⟨x,hx⟩:=fx (l:=l) (k:=k) (by rw[ll.o];omega);obtain ⟨g,o,rfl,x1,x2⟩:=QC.o k x hx;have r1:=ae zr x1;have r2:=ae zr x2;have QB:=(QG.o x (List.mem_of_getElem? hx)).2;have HX:=aa hx;have JM:=aa r1;have Xc:=aa QB;have Qc:=aa (dV.below zr);clear hx x1 x2 r1 QB;obtain ⟨y1,y2⟩:=x;simp only at r2;go_wp2_with fail;refine (zo y2 Xc.1 Xc.2 _).mono ?_;rintro e w3 ⟨rfl,hb⟩;have dF:=bh zr hb;have BD:w2.heap.size≤w3.heap.size:=dF.size;have r1:=ae hb JM.o;have r2:=(dV.below dF).2.1;have hg1:=World.block_lt_of_cell? _ _ r1;have hg2:=World.block_lt_of_cell? _ _ r2;obtain ⟨⟨rc,rp,rs,rb⟩,FV⟩:∃r,JL y2=r:=⟨_,rfl⟩
   rw[FV];simp only[aB.agg];obtain ⟨B2,TU⟩:∃b,rX y2=b:=⟨_,rfl⟩
   rw[TU];have Jl:=aa TU;clear hb FV TU;have r3:(w3.alloc (.cells #[.int .i64 rc,.int .i64 rp,.int .i64 rs,.bool rb] 50)).cell? ⟨g,o+k*2,none⟩=some (.int .i64 y1):=by rw[World.cell?_alloc_past _ _ _ hg1];exact r1
   have r4:(w3.alloc (.cells #[.int .i64 rc,.int .i64 rp,.int .i64 rs,.bool rb] 50)).cell? ⟨w.heap.size,1,none⟩=some (.int .i64 S):=by rw[World.cell?_alloc_past _ _ _ hg2];exact r2
   have fW:=aa (dF.alloc BD (.cells #[.int .i64 rc,.int .i64 rp,.int .i64 rs,.bool rb] 50));cases B2 with
   |false=>have HF:=aa (show cE d=false from vC (x:=(y1,y2)) (i:=k) (by rw[HPE.o];exact HX) (by unfold dG;simp only;rw[Jl.o,Bool.false_and]));go_wp2_with fail;go_quiet (fail);go_wp2_with fail;go_ret;exact ⟨aN HF.symm,az (ak bS fW) _⟩
   |true=>
    by_cases zt:y1<0
    ·have HF:=aa (show cE d=false from vC (x:=(y1,y2)) (i:=k) (by rw[HPE.o];exact HX) (by unfold dG;simp only;rw[decide_eq_false (by omega),Bool.and_false]))
     have Qb:decide (y1<0)=true:=decide_eq_true zt;go_wp2_with fail;go_quiet (fail);go_wp2_with fail;go_ret;exact ⟨aN HF.symm,az (ak bS fW) _⟩
    ·have Qb:decide (y1<0)=false:=decide_eq_false zt
     by_cases FX:S≤y1
     ·have HF:=aa (show cE d=false from vC (x:=(y1,y2)) (i:=k) (by rw[HPE.o];exact HX) (by unfold dG;simp only;rw[zq.o,decide_eq_false (by omega),Bool.and_false]))
      have hdc:decide (S≤y1)=true:=decide_eq_true FX;go_wp2_with fail;go_quiet (fail);go_wp2_with fail;go_ret;exact ⟨aN HF.symm,az (ak bS fW) _⟩
     ·have hdc:decide (S≤y1)=false:=decide_eq_false FX
      have HG:=aa (show dG S (y1,y2)=true by unfold dG;simp only;rw[Jl.o,Bool.true_and,decide_eq_true_eq];omega);clear zt FX;go_wp2_with fail;go_quiet (fail);go_wp2_with fail;go_roundw
      case rel=>
       refine ⟨k+1,by omega,by go_num,fun j x' hj ji=>?_,az fW.o _⟩;by_cases e:j=k
       ·subst e;rw[HX.o] at ji;cases ji;exact HG.o
       ·exact ed j x' (by omega) ji
      case measure=>simp[intOf];omega
def kU (a b:dx):Bool:=(a.id==b.id&&a.size==b.size)&&lW (aA a.map) (aA b.map)
theorem JN (d1 d2:dx) (v1 v2:Value) (w:World) (h1:ve w v1 d1) (h2:ve w v2 d2) (l1:dK d1.map) (l2:dK d2.map):Calls prog 101 #[v1,v2] w fun e w'=>e=.returned (.bool (kU d1 d2))∧Bw w w':=by
 obtain ⟨a,b,c,rfl,_,_,hn⟩:=h1;obtain ⟨a',b',c',rfl,_,_,Xd⟩:=h2;have hb1:Bw w (w.alloc (.cells #[.int .i64 d1.id,.int .i64 d1.size,a,b,c] 75)):=ar;have hb2:Bw w ((w.alloc (.cells #[.int .i64 d1.id,.int .i64 d1.size,a,b,c] 75)).alloc (.cells #[.int .i64 d2.id,.int .i64 d2.size,a',b',c'] 75)):=hb1.alloc (by simp) _;obtain ⟨⟨pa,ca,rfl,_,_,_⟩,⟨pb,cb,rfl,_,_,_⟩,⟨pc,cc,rfl,_,_,_⟩⟩:=bA.1 hn;obtain ⟨⟨pa',ca',rfl,_,_,_⟩,⟨pb',cb',rfl,_,_,_⟩,⟨TV,TW,rfl,_,_,_⟩⟩:=bA.1 Xd;obtain ⟨KA,hKA⟩:∃K,d1.map.keys.length=K:=⟨_,rfl⟩
 obtain ⟨KB,hKB⟩:∃K,d1.map.vals.length=K:=⟨_,rfl⟩
 obtain ⟨KC,hKC⟩:∃K,d1.map.kids.length=K:=⟨_,rfl⟩
 obtain ⟨KA',aco⟩:∃K,d2.map.keys.length=K:=⟨_,rfl⟩
 obtain ⟨KB',acp⟩:∃K,d2.map.vals.length=K:=⟨_,rfl⟩
 obtain ⟨KC',acq⟩:∃K,d2.map.kids.length=K:=⟨_,rfl⟩
 rw[hKA,hKB,hKC] at hn hb1 hb2 ⊢;rw[aco,acp,acq] at Xd hb2 ⊢;have HNA:=aa (hn.keep (af hb2));have rY:=aa (Xd.keep (af hb2));have HB:=aa hb2;have xg:=aa l1;have nP:=aa l2;clear hn Xd hb1 hb2 l1 l2 hKA hKB hKC aco acp acq;by_cases hid:d1.id=d2.id
 case neg=>
  have he:(d1.id==d2.id)=false:=by simpa using hid
  have HF:=aa (show kU d1 d2=false by unfold kU;rw[he];simp);clear hid;go_enter func101,ntmps101;go_wp2_with fail;go_quiet (fail);go_wp2_with fail;go_ret;exact ⟨aN HF.symm,az HB _⟩
 have he:(d1.id==d2.id)=true:=by simpa using hid
 clear hid;by_cases hsz:d1.size=d2.size
 case neg=>
  have he2:(d1.size==d2.size)=false:=by simpa using hsz
  have HF:=aa (show kU d1 d2=false by unfold kU;rw[he2];simp);clear hsz;go_enter func101,ntmps101;go_wp2_with fail;go_quiet (fail);go_wp2_with fail;go_ret;exact ⟨aN HF.symm,az HB _⟩
 have he2:(d1.size==d2.size)=true:=by simpa using hsz
 have HF:=aa (show kU d1 d2=lW (aA d1.map) (aA d2.map) by unfold kU;rw[he,he2];simp);clear hsz;obtain ⟨I,hI⟩:=aG d1.id;obtain ⟨S,hS⟩:∃I,d1.size=I:=⟨_,rfl⟩
 obtain ⟨I',hI'⟩:∃I,d2.id=I:=⟨_,rfl⟩
 obtain ⟨S',hS'⟩:∃I,d2.size=I:=⟨_,rfl⟩
 rw[hI,hS,hI',hS'] at HB HNA rY ⊢;rw[hI,hI'] at he;rw[hS,hS'] at he2;clear hI hS hI' hS';obtain ⟨W,hW⟩:=aG ((w.alloc (.cells #[.int .i64 I,.int .i64 S,.slice pa KA ca,.slice pb KB cb,.slice pc KC cc] 75)).alloc (.cells #[.int .i64 I',.int .i64 S',.slice pa' KA' ca',.slice pb' KB' cb',.slice TV KC' TW] 75));have aU:=aa (show pL w.heap.size (.int .i64 I) (.int .i64 S) (.slice pa KA ca) (.slice pb KB cb) (.slice pc KC cc) W by rw[← hW];exact ⟨by simp,by simp,by simp,by simp,by simp⟩);have dV:=aa (show pL (w.heap.size+1) (.int .i64 I') (.int .i64 S') (.slice pa' KA' ca') (.slice pb' KB' cb') (.slice TV KC' TW) W by rw[← hW];exact ⟨by simp,by simp,by simp,by simp,by simp⟩);go_enter func101,ntmps101;go_upto_region 1 with fail;rw[hW] at HB HNA rY;clear hW;have aii:=aa (show bn W.drew d1.map _ _ _ from HNA.keep (af aH.drew));have aij:=aa (show bn W.drew d2.map _ _ _ from rY.keep (af aH.drew));have kJ:=aa (show pL w.heap.size (.int .i64 I) (.int .i64 S) (.slice pa KA ca) (.slice pb KB cb) (.slice pc KC cc) W.drew∧pL (w.heap.size+1) (.int .i64 I') (.int .i64 S') (.slice pa' KA' ca') (.slice pb' KB' cb') (.slice TV KC' TW) W.drew from ⟨aU.below aH.drew,dV.below aH.drew⟩);have fJ:=aa (show Bw w W.drew from HB.drew);obtain ⟨⟨u0,u1,u2,u3,u4⟩,t0,t1,t2,t3,t4⟩:=kJ.o;go_region_held3 (fun w'=>w'.cell? ⟨w.heap.size,0,none⟩=some (.int .i64 I)∧w'.cell? ⟨w.heap.size,1,none⟩=some (.int .i64 S)∧w'.cell? ⟨w.heap.size,2,none⟩=some (.slice pa KA ca)∧w'.cell? ⟨w.heap.size,3,none⟩=some (.slice pb KB cb)∧w'.cell? ⟨w.heap.size,4,none⟩=some (.slice pc KC cc)∧w'.cell? ⟨w.heap.size+1,0,none⟩=some (.int .i64 I')∧w'.cell? ⟨w.heap.size+1,1,none⟩=some (.int .i64 S')∧w'.cell? ⟨w.heap.size+1,2,none⟩=some (.slice pa' KA' ca')∧w'.cell? ⟨w.heap.size+1,3,none⟩=some (.slice pb' KB' cb')∧w'.cell? ⟨w.heap.size+1,4,none⟩=some (.slice TV KC' TW))
  (first|exact ⟨u0,u1,u2,u3,u4,t0,t1,t2,t3,t4⟩|exact ⟨zu.o.1.1,zu.o.1.2.1,zu.o.1.2.2.1,zu.o.1.2.2.2.1,zu.o.1.2.2.2.2,zu.o.2.1,zu.o.2.2.1,zu.o.2.2.2.1,zu.o.2.2.2.2.1,zu.o.2.2.2.2.2⟩|exact ⟨lZ.o.1.1,lZ.o.1.2.1,lZ.o.1.2.2.1,lZ.o.1.2.2.2.1,lZ.o.1.2.2.2.2,lZ.o.2.1,lZ.o.2.2.1,lZ.o.2.2.2.1,lZ.o.2.2.2.2.1,lZ.o.2.2.2.2.2⟩|exact ⟨gq.o.1.1,gq.o.1.2.1,gq.o.1.2.2.1,gq.o.1.2.2.2.1,gq.o.1.2.2.2.2,gq.o.2.1,gq.o.2.2.1,gq.o.2.2.2.1,gq.o.2.2.2.2.1,gq.o.2.2.2.2.2⟩)
  (first|((with_reducible refine (kq d1.map _ _ _ _ aii.o (by have:=xg.o;unfold dK at this;omega)).mono ?_);rintro e w1 ⟨v1,rfl,hrow,hb⟩;have HP1:=aa (eC hrow);have aik:=aa (aij.o.keep (af hb));have yq:=bh fJ hb;have gq:=aa (And.intro (kJ.o.1.below hb) (kJ.o.2.below hb));clear hrow hb)|((with_reducible refine (kq d2.map _ _ _ _ aik.o (by have:=nP.o;unfold dK at this;omega)).mono ?_);rintro e w2 ⟨v2,rfl,hrow,hb⟩;have pK:=aa (eC hrow);have ail:=aa (HP1.o.keep (af hb));have jl:=bh yq hb;have lZ:=aa (And.intro (gq.o.1.below hb) (gq.o.2.below hb));clear hrow hb)|((with_reducible refine (FR _ _ _ _ _ ail.o pK.o).mono ?_);rintro e w3 ⟨rfl,hb⟩;have HBC:=bh jl hb;have zu:=aa (And.intro (lZ.o.1.below hb) (lZ.o.2.below hb));clear hb))
 go_wp2_with fail;go_ret;exact ⟨aN HF.symm,HBC⟩
def bM (l:List dx):Prop:=∀d∈l,dK d.map
def jP:List dx→List dx→Bool
 |[],[]=>true
 |a::l,b::m=>kU a b&&jP l m
 |_,_=>false
theorem l5:∀(l m:List dx),jP l m=true↔l.length=m.length∧∀(j:Nat) a b,l[j]?=some a→m[j]?=some b→kU a b=true
 |[],[]=>by simp[jP]
 |[],b::m=>by simp[jP]
 |a::l,[]=>by simp[jP]
 |a::l,b::m=>by
  simp only[jP,Bool.and_eq_true,l5 l m,List.length_cons];constructor
  ·rintro ⟨h1,h2,h3⟩
   refine ⟨by omega,fun j x y hx hy=>?_⟩;cases j with
   |zero=>simp only[List.getElem?_cons_zero,Option.some.injEq] at hx hy;subst hx hy;exact h1
   |succ j=>rw[List.getElem?_cons_succ] at hx hy;exact h3 j x y hx hy
  ·rintro ⟨h1,h2⟩
   exact ⟨h2 0 a b rfl rfl,by omega,fun j x y hx hy=>h2 (j+1) x y (by rw[List.getElem?_cons_succ];exact hx) (by rw[List.getElem?_cons_succ];exact hy)⟩
def V5 (g o:Nat) (i s:Int) (a b c:Value) (w:World):Prop:=w.cell? ⟨g,o,none⟩=some (.int .i64 i)∧w.cell? ⟨g,o+1,none⟩=some (.int .i64 s)∧w.cell? ⟨g,o+2,none⟩=some a∧w.cell? ⟨g,o+3,none⟩=some b∧w.cell? ⟨g,o+4,none⟩=some c
theorem V5.below {o:Nat} {i s:Int} {a b c:Value} (h:V5 g o i s a b c w) (hb:Bw w w'):V5 g o i s a b c w':=
 ⟨ae hb h.1,ae hb h.2.1,ae hb h.2.2.1,ae hb h.2.2.2.1,ae hb h.2.2.2.2⟩
theorem FY (x y:List dx) (v1 v2:Value) (w:World) (h1:eQ w v1 x) (h2:eQ w v2 y) (l1:bM x) (l2:bM y):Calls prog 47 #[v1,v2] w fun e w'=>e=.returned (.bool (jP x y))∧Bw w w':=by
 obtain ⟨p,cp,rfl,a1,a2,ha⟩:=h1;obtain ⟨q,cq,rfl,b1,b2,hb⟩:=h2;have HA:=aa ha;have jl:=aa hb;obtain ⟨N,hN⟩:=aG x.length;obtain ⟨M,hM⟩:=aG y.length;rw[hN] at a1;rw[hM] at b1;rw[hN,hM];have hlc:=fG (n:=N) a2;have hld:=fG (n:=M) b2;have HN:=aa hN;have HM:=aa hM;have xg:=aa l1;have nP:=aa l2;clear ha hb hN hM a1 a2 b1 b2 l1 l2;by_cases hNM:N=M
 case neg=>
  have hne:((N:Int) != (M:Int))=true:=by rw[bne_iff_ne];omega
  have HF:=aa (show jP x y=false by
   rw[← Bool.not_eq_true,l5];rintro ⟨h,_⟩;exact hNM (by rw[← HN.o,← HM.o,h]))
  clear hNM;go_enter func47,ntmps47;go_wp2_with fail;go_ret;exact ⟨aN HF.symm,aH⟩
 subst hNM;have hne:((N:Int) != (N:Int))=false:=by simp
 go_enter func47,ntmps47;go_wp2_with fail;go_loopw [5] (fun i wr=>∃k:Nat,k≤N∧i=.int .i64 k∧(∀(j:Nat) a b,j<k→x[j]?=some a→y[j]?=some b→kU a b=true)∧Bw w wr) (fun i _=>N-(intOf i).toNat)
 case atStart=>exact ⟨0,dO,rfl,fun j a b hj=>by omega,aH⟩
 case round=>
  obtain ⟨k,hk,rfl,hall,hb⟩:=hrel;have ed:=aa hall;have HB:=aa hb;clear hall hb;by_cases hlt:k<N
  case neg=>
   obtain rfl:k=N:=by omega
   have HF:=aa (show jP x y=true by
    rw[l5];exact ⟨by rw[HN.o,HM.o],fun j a b ha hb=>ed j a b (by have:=(List.getElem?_eq_some_iff.1 ha).1;have:=HN.o;omega) ha hb⟩)
   go_wp2_with fail;go_ret;exact ⟨aN HF.symm,HB⟩
  have fN:(k:Int)<(N:Int):=by omega
  obtain ⟨s,hs⟩:=fx (l:=x) (k:=k) (by rw[HN.o];omega);obtain ⟨t,ht⟩:=fx (l:=y) (k:=k) (by rw[HM.o];omega);obtain ⟨i1,i2,g,o,a,b,c,rfl,e0,e1,e2,e3,e4,e5⟩:=HA.o k s hs;obtain ⟨j1,j2,g',o',a',b',c',rfl,f0,f1,f2,f3,f4,f5⟩:=jl.o k t ht;have Qd:=aa (show V5 g (o+k*5) s.id s.size a b c wr.drew from V5.below (V5.below ⟨e0,e1,e2,e3,e4⟩ HB) aH.drew);have Yk:=aa (show V5 g' (o'+k*5) t.id t.size a' b' c' wr.drew from V5.below (V5.below ⟨f0,f1,f2,f3,f4⟩ HB) aH.drew);have aU:=aa (show ve wr.drew (.agg #[.int .i64 s.id,.int .i64 s.size,a,b,c]) s from ⟨a,b,c,rfl,i1,i2,(e5.keep (af HB)).keep (af aH.drew)⟩);have dV:=aa (show ve wr.drew (.agg #[.int .i64 t.id,.int .i64 t.size,a',b',c']) t from ⟨a',b',c',rfl,j1,j2,(f5.keep (af HB)).keep (af aH.drew)⟩);have HS:=aa hs;have HT:=aa ht;have Jm:=aa (xg.o s (List.mem_of_getElem? hs));have Cq:=aa (nP.o t (List.mem_of_getElem? ht));clear hs ht e0 e1 e2 e3 e4 e5 f0 f1 f2 f3 f4 f5 i1 i2 j1 j2;obtain ⟨u0,u1,u2,u3,u4⟩:=Qd.o;obtain ⟨t0,t1,t2,t3,t4⟩:=Yk.o;obtain ⟨bb,iY⟩:=aG (kU s t);have uq:=aa iY;clear iY;go_wp2_with fail;go_region_held3 (fun w'=>w'.cell? ⟨g,o+k*5,none⟩=some (.int .i64 s.id)∧w'.cell? ⟨g,o+k*5+1,none⟩=some (.int .i64 s.size)∧w'.cell? ⟨g,o+k*5+2,none⟩=some a∧w'.cell? ⟨g,o+k*5+3,none⟩=some b∧w'.cell? ⟨g,o+k*5+4,none⟩=some c∧w'.cell? ⟨g',o'+k*5,none⟩=some (.int .i64 t.id)∧w'.cell? ⟨g',o'+k*5+1,none⟩=some (.int .i64 t.size)∧w'.cell? ⟨g',o'+k*5+2,none⟩=some a'∧w'.cell? ⟨g',o'+k*5+3,none⟩=some b'∧w'.cell? ⟨g',o'+k*5+4,none⟩=some c')
   (first|exact ⟨u0,u1,u2,u3,u4,t0,t1,t2,t3,t4⟩|exact gq.o)
   (((with_reducible refine (JN s t _ _ _ aU.o dV.o Jm.o Cq.o).mono ?_);rintro e w1 ⟨rfl,hb⟩;rw[uq.o];have aY:=aa (ak HB.o.drew hb);have gq:=aa (show _∧_∧_∧_∧_∧_∧_∧_∧_∧_ from ⟨ae hb u0,ae hb u1,ae hb u2,ae hb u3,ae hb u4,ae hb t0,ae hb t1,ae hb t2,ae hb t3,ae hb t4⟩);clear hb))
  clear u0 u1 u2 u3 u4 t0 t1 t2 t3 t4;cases bb with
  |true=>
   go_wp2_with fail;go_roundw
   case rel=>
    refine ⟨k+1,by omega,by go_num,fun j a b hj ji BB=>?_,aY.o⟩;by_cases e:j=k
    ·subst e;rw[HS.o] at ji;rw[HT.o] at BB;cases ji;cases BB;exact uq.o
    ·exact ed j a b (by omega) ji BB
   case measure=>simp[intOf];omega
  |false=>
   have HF:=aa (show jP x y=false by
    rw[← Bool.not_eq_true,l5];rintro ⟨_,h⟩;have:=h k s t HS HT.o;rw[uq.o] at this;exact absurd this (by simp))
   go_wp2_with fail;go_ret;exact ⟨aN HF.symm,aY⟩
def QH:ag:=.mk [] [] []
def zeroV:dx:=⟨0,0,QH⟩
def findD (l:List dx) (id:Int):dx×Bool:=match l.find? (fun d=>d.id==id) with
 |some d=>(d,true)
 |none=>(zeroV,false)
theorem MW (w:World):bn w QH (.slice none 0 0) (.slice none 0 0) (.slice none 0 0):=by unfold QH;rw[bA];exact ⟨⟨none,0,rfl,aT,by unfold maxLen;omega,fun i x h=>by simp[ag.keys] at h⟩,⟨none,0,rfl,aT,by unfold maxLen;omega,fun i x h=>by simp[ag.vals] at h⟩,none,0,rfl,aT,by unfold maxLen;omega,fun j t h=>by simp[ag.kids] at h⟩
theorem FZ (w:World):ve w (.agg #[.int .i64 0,.int .i64 0,.slice none 0 0,.slice none 0 0,.slice none 0 0]) zeroV:=
 ⟨_,_,_,rfl,by unfold zeroV aQ;simp,by unfold zeroV aQ;simp,MW w⟩
theorem aZ {a b c:Value} (h:bn w t a b c):∃pa na ca pb nb cb pc nc cc,a=.slice pa na ca∧b=.slice pb nb cb∧c=.slice pc nc cc:=by obtain ⟨⟨pa,ca,h1,_⟩,⟨pb,cb,h2,_⟩,⟨pc,cc,h3,_⟩⟩:=bA.1 h;exact ⟨pa,_,ca,pb,_,cb,pc,_,cc,h1,h2,h3⟩
theorem abl (x:List dx) (q:Int) (v1:Value) (w:World) (h1:eQ w v1 x):Calls prog 108 #[v1,.int .i64 q] w fun e w'=>∃v,e=.returned (.tuple #[v,.bool (findD x q).2])∧ve w' v (findD x q).1∧Bw w w':=by
 obtain ⟨p,cp,rfl,a1,a2,ha⟩:=h1;have HA:=aa ha;obtain ⟨N,hN⟩:=aG x.length;rw[hN] at a1;rw[hN];have hlc:=fG (n:=N) a2;have HN:=aa hN;clear ha hN a1 a2;go_enter func108,ntmps108;go_wp2_with fail;have kB:=aa (show Bw w (w.alloc (.cells #[.int .i64 0,.int .i64 0,.slice none 0 0,.slice none 0 0,.slice none 0 0] 75)) from ar);go_loop [6] (fun i=>∃k:Nat,k≤N∧i=.int .i64 k∧findD x q=findD (x.drop k) q) (fun i=>N-(intOf i).toNat)
 case atStart=>exact ⟨0,dO,rfl,by rw[List.drop_zero]⟩
 case round=>
  obtain ⟨k,hk,rfl,hall⟩:=hrel;have ed:=aa hall;clear hall;by_cases hlt:k<N
  case neg=>
   obtain rfl:k=N:=by omega
   have HF:=aa (show findD x q=(zeroV,false) by rw[ed.o,List.drop_of_length_le (by rw[HN.o];omega)];rfl);go_wp2_with fail;refine bodyPost_ret (v:=.tuple #[.agg #[.int .i64 0,.int .i64 0,.slice none 0 0,.slice none 0 0,.slice none 0 0],.bool false]) (by simp[results,results108,go_sem]) rfl ?_;refine ⟨_,by rw[HF.o],by rw[HF.o];exact FZ _,kB⟩
  have fN:(k:Int)<(N:Int):=by omega
  obtain ⟨s,hs⟩:=fx (l:=x) (k:=k) (by rw[HN.o];omega);obtain ⟨i1,i2,g,o,a,b,c,rfl,e0,e1,e2,e3,e4,e5⟩:=HA.o k s hs;obtain ⟨pa,na,ca,pb,nb,cb,pc,nc,cc,rfl,rfl,rfl⟩:=aZ e5;have r0:=ae kB e0;have r1:=ae kB e1;have r2:=ae kB e2;have r3:=ae kB e3;have r4:=ae kB e4;have hg:=World.block_lt_of_cell? _ _ e0;have hd:x.drop k=s::x.drop (k+1):=by obtain ⟨hk2,hx⟩:=List.getElem?_eq_some_iff.1 hs;rw[List.drop_eq_getElem_cons hk2,hx]
  have HD:=aa hd;have HE:=aa (And.intro i1 (And.intro i2 e5));clear hs hd e5 i1 i2;by_cases D5:s.id=q
  ·have hb:(s.id==q)=true:=by simpa using D5
   have HF:=aa (show findD x q=(s,true) by rw[ed.o,HD.o];unfold findD;rw[List.find?_cons_of_pos (p:=fun d:dx=>d.id==q) hb]);clear D5;go_wp2_with fail;have Xe:=(Below.refl w.heap.size w).alloc aT (.cells #[.int .i64 s.id,.int .i64 s.size,.slice pa na ca,.slice pb nb cb,.slice pc nc cc] 75);refine bodyPost_ret (v:=.tuple #[.agg #[.int .i64 s.id,.int .i64 s.size,.slice pa na ca,.slice pb nb cb,.slice pc nc cc],.bool true]) (by simp[results,results108,go_sem]) rfl ?_;exact ⟨_,by rw[HF.o],by rw[HF.o];exact ⟨_,_,_,rfl,HE.1,HE.2.1,HE.2.2.keep (af Xe)⟩,Xe⟩
  ·have hb:(s.id==q)=false:=by simpa using D5
   have HF:=aa (show findD x q=findD (x.drop (k+1)) q by rw[ed.o,HD.o];unfold findD;rw[List.find?_cons_of_neg (p:=fun d:dx=>d.id==q) (by simpa using D5)]);clear D5;go_wp2_with fail;go_round
   case rel=>exact ⟨k+1,by omega,by go_num,HF.o⟩
   case measure=>simp[intOf];omega
def kV (d:dx):Bool:=pW d.map&&decide (fL d.map 60<60)
def kC (l:List dx):Bool:=l.all kV&&decide (l.length≤70)
theorem D6 (x:List dx) (v1:Value) (w:World) (h1:eQ w v1 x):Calls prog 22 #[v1] w fun e w'=>e=.returned (.bool (kC x))∧Bw w w':=by
 obtain ⟨p,cp,rfl,a1,a2,ha⟩:=h1;have HA:=aa ha;obtain ⟨N,hN⟩:=aG x.length;rw[hN] at a1;rw[hN];have hlc:=fG (n:=N) a2;have HN:=aa hN;clear ha hN a1 a2;go_enter func22,ntmps22;go_wp2_with fail;go_loopw [3] (fun i wr=>∃k:Nat,k≤N∧i=.int .i64 k∧(∀(j:Nat) a,j<k→x[j]?=some a→kV a=true)∧Bw w wr) (fun i _=>N-(intOf i).toNat)
 case atStart=>exact ⟨0,dO,rfl,fun j a hj=>by omega,aH⟩
 case round=>
  obtain ⟨k,hk,rfl,hall,hb⟩:=hrel;have ed:=aa hall;have HB:=aa hb;clear hall hb;by_cases hlt:k<N
  case neg=>
   obtain rfl:k=N:=by omega
   have HF:=aa (show kC x=decide (k≤70) by
    unfold kC;rw[HN.o,show x.all kV=true from List.all_eq_true.2 (fun a ha=>by
     obtain ⟨j,hj⟩:=List.mem_iff_getElem?.1 ha;exact ed j a (by have:=(List.getElem?_eq_some_iff.1 hj).1;have:=HN.o;omega) hj),Bool.true_and])
   go_wp2_with fail;go_ret;refine ⟨aN ?_,HB⟩;rw[HF.o,decide_eq_decide];omega
  have fN:(k:Int)<(N:Int):=by omega
  obtain ⟨s,hs⟩:=fx (l:=x) (k:=k) (by rw[HN.o];omega);obtain ⟨i1,i2,g,o,a,b,c,rfl,e0,e1,e2,e3,e4,e5⟩:=HA.o k s hs;have HV:=aa (show V5 g (o+k*5) s.id s.size a b c wr from V5.below ⟨e0,e1,e2,e3,e4⟩ HB);have zl:=aa (e5.keep (af HB));have HS:=aa hs;clear hs e0 e1 e2 e3 e4 e5 i1 i2;obtain ⟨_,_,r2,r3,r4⟩:=HV.o;go_wp2_with fail;refine (JI s.map a b c _ zl).mono ?_;rintro e w1 ⟨rfl,hb⟩;have aY:=bh HB hb;have Qd:=aa (HV.below hb);have aim:=aa (zl.keep (af hb));clear hb r2 r3 r4;have hno:kV s=false→kC x=false:=fun h=>by unfold kC;rw[show x.all kV=false from List.all_eq_false.2 ⟨s,List.mem_of_getElem? HS,by rw[h];simp⟩,Bool.false_and]
  have oI:=aa hno;clear hno;obtain ⟨bb,iY⟩:=aG (pW s.map);rw[iY];have uq:=aa iY;clear iY;obtain ⟨_,_,r2,r3,r4⟩:=Qd.o;cases bb with
  |false=>go_wp2_with fail;go_ret;exact ⟨aN (oI (by unfold kV;rw[uq.o];rfl)).symm,aY⟩
  |true=>
   go_wp2_with fail;refine (Ck s.map a b c 60 _ aim (by omega) (by omega)).mono ?_;rintro e w2 ⟨rfl,hb⟩;have bS:=bh aY hb;clear hb r2 r3 r4;obtain ⟨C,hC⟩:=aG (fL s.map 60);rw[hC];have HCE:=aa hC;clear hC;by_cases hlt60:C<60
   ·have hd:decide (60≤C)=false:=by rw[decide_eq_false_iff_not];omega
    have HT:=aa (show kV s=true by unfold kV;rw[uq.o,HCE.o,decide_eq_true hlt60];rfl);clear hlt60;go_wp2_with fail;go_roundw
    case rel=>
     refine ⟨k+1,by omega,by go_num,fun j a' hj ji=>?_,bS.o⟩;by_cases e:j=k
     ·subst e;rw[HS.o] at ji;cases ji;exact HT.o
     ·exact ed j a' (by omega) ji
    case measure=>simp[intOf];omega
   ·have hd:decide (60≤C)=true:=by rw[decide_eq_true_eq];omega
    have HT:=aa (show kV s=false by unfold kV;rw[uq.o,HCE.o,decide_eq_false hlt60];rfl);clear hlt60;go_wp2_with fail;go_ret;exact ⟨aN (oI HT).symm,bS⟩
def Xf (l:List dx):Prop:=(∀d∈l,cE d=true)∧QF l∧l.length≤64
noncomputable def dP (l:List dx):Bool := @decide (Xf l) (Classical.propDecidable _)
theorem dr:dP l=true↔Xf l:=by unfold dP;exact @decide_eq_true_iff _ (Classical.propDecidable _)
theorem ql {d:dx} (h:l[k]?=some d) (hd:cE d=false):dP l=false:=by rw[← Bool.not_eq_true,dr];rintro ⟨h1,_⟩;have:=h1 d (List.mem_of_getElem? h);rw[hd] at this;exact absurd this (by simp)
theorem qq {a b:dx} (ha:l[k]?=some a) (hb:l[k+1]?=some b) (h:¬a.id<b.id):dP l=false:=by rw[← Bool.not_eq_true,dr];rintro ⟨_,h2,_⟩;exact h (h2 k a b ha hb)
theorem Cr (h1:∀(j:Nat) a,l[j]?=some a→cE a=true) (h2:QF l):dP l=decide (l.length≤64):=by
 by_cases h:l.length≤64
 ·rw[decide_eq_true h,dr]
  exact ⟨fun d hd=>by obtain ⟨j,hj⟩:=List.mem_iff_getElem?.1 hd;exact h1 j d hj,h2,h⟩
 ·rw[decide_eq_false h,← Bool.not_eq_true,dr];rintro ⟨_,_,h3⟩;exact h h3
theorem sZ (x:List dx) (v1:Value) (w:World) (h1:eQ w v1 x) (l1:bM x):Calls prog 86 #[v1] w fun e w'=>e=.returned (.bool (dP x))∧Bw w w':=by
 obtain ⟨p,cp,rfl,a1,a2,ha⟩:=h1;have HA:=aa ha;obtain ⟨N,hN⟩:=aG x.length;rw[hN] at a1;rw[hN];have hlc:=fG (n:=N) a2;have HN:=aa hN;have xg:=aa l1;clear ha hN a1 a2 l1;go_enter func86,ntmps86;go_wp2_with fail;go_loopw [3] (fun i wr=>∃k:Nat,k≤N∧i=.int .i64 k∧(∀(j:Nat) a,j<k→x[j]?=some a→cE a=true)∧(∀(j:Nat) a b,j+1<k→x[j]?=some a→x[j+1]?=some b→a.id<b.id)∧Bw w wr) (fun i _=>N-(intOf i).toNat)
 case atStart=>exact ⟨0,dO,rfl,fun j a hj=>by omega,fun j a b hj=>by omega,aH⟩
 case round=>
  obtain ⟨k,hk,rfl,hall,QI,hb⟩:=hrel;have ed:=aa hall;have Xg:=aa QI;have HB:=aa hb;clear hall hb QI;by_cases hlt:k<N
  case neg=>
   obtain rfl:k=N:=by omega
   have HF:=aa (show dP x=decide (k≤64) by
    rw[Cr (fun j a h=>ed j a (by have:=(List.getElem?_eq_some_iff.1 h).1;have:=HN.o;omega) h) (fun j a b ha hb=>Xg j a b (by have:=(List.getElem?_eq_some_iff.1 hb).1;have:=HN.o;omega) ha hb),HN.o])
   go_wp2_with fail;go_ret;refine ⟨aN ?_,HB⟩;rw[HF.o,decide_eq_decide];omega
  have fN:(k:Int)<(N:Int):=by omega
  obtain ⟨s,hs⟩:=fx (l:=x) (k:=k) (by rw[HN.o];omega);obtain ⟨i1,i2,g,o,a,b,c,rfl,e0,e1,e2,e3,e4,e5⟩:=HA.o k s hs;have HV:=aa (show V5 g (o+k*5) s.id s.size a b c wr.drew from V5.below (V5.below ⟨e0,e1,e2,e3,e4⟩ HB) aH.drew);have HX:=aa (show ve wr.drew (.agg #[.int .i64 s.id,.int .i64 s.size,a,b,c]) s from ⟨a,b,c,rfl,i1,i2,(e5.keep (af HB)).keep (af aH.drew)⟩);have HS:=aa hs;have HM:=aa (xg.o s (List.mem_of_getElem? hs));clear hs e0 e1 e2 e3 e4 e5 i1 i2;obtain ⟨r0,r1,r2,r3,r4⟩:=HV.o;cases hr:cE s with
  |false=>have HT:=aa hr;clear hr;have HF:=aa (ql HS HT);go_wp2_with fail;refine wp_region_held_drew (S:=fun w'=>w'.cell? ⟨g,o+k*5,none⟩=some (.int .i64 s.id)∧w'.cell? ⟨g,o+k*5+1,none⟩=some (.int .i64 s.size)∧w'.cell? ⟨g,o+k*5+2,none⟩=some a∧w'.cell? ⟨g,o+k*5+3,none⟩=some b∧w'.cell? ⟨g,o+k*5+4,none⟩=some c) (by kernel_rfl) ⟨r0,r1,r2,r3,r4⟩ (fun hHeld=>?_);refine cB 0 10 (.slice (some ⟨g,o,none⟩) N cp) rfl rfl hHeld ?_;simp only[aD];refine cB 1 11 (.int .i64 k) rfl rfl hHeld ?_;simp only[aD];refine cB 2 12 (.pointer (some ⟨g,o+k*5,none⟩)) rfl rfl hHeld ?_;simp only[aD];refine cB 3 13 (.agg #[.int .i64 s.id,.int .i64 s.size,a,b,c]) rfl rfl hHeld ?_;simp only[aD];refine kh 4 rfl (fun K hK=>?_);go_simp;refine (lY s _ _ HX HM).mono ?_;rintro e w1 ⟨rfl,hb⟩;have aY:=aa (ak HB.drew hb);have gq:=aa (show _∧_∧_∧_∧_ from ⟨ae hb r0,ae hb r1,ae hb r2,ae hb r3,ae hb r4⟩);clear hb hHeld r0 r1 r2 r3 r4;rw[HT.o];go_simp;refine hK.out _ _ gq (fun hHeld=>?_);clear hK K;refine cB 5 15 (.bool true) rfl rfl hHeld ?_;simp only[aD];refine cB 6 16 (.bool true) rfl rfl hHeld ?_;simp only[aD];refine nO 7 17 rfl rfl hHeld ?_;simp only[aD];refine nO 8 18 rfl rfl hHeld ?_;simp only[aD];refine nO 9 19 rfl rfl hHeld ?_;simp only[aD];refine nO 10 20 rfl rfl hHeld ?_;simp only[aD];refine nO 11 21 rfl rfl hHeld ?_;simp only[aD];refine nO 12 22 rfl rfl hHeld ?_;simp only[aD];refine nO 13 23 rfl rfl hHeld ?_;simp only[aD];refine nO 14 24 rfl rfl hHeld ?_;simp only[aD];refine nO 15 25 rfl rfl hHeld ?_;simp only[aD];refine nO 16 26 rfl rfl hHeld ?_;simp only[aD];refine nO 17 27 rfl rfl hHeld ?_;simp only[aD];refine nO 18 28 rfl rfl hHeld ?_;simp only[aD];refine nO 19 29 rfl rfl hHeld ?_;simp only[aD];refine nO 20 30 rfl rfl hHeld ?_;simp only[aD];refine nO 21 31 rfl rfl hHeld ?_;simp only[aD];refine nO 22 32 rfl rfl hHeld ?_;simp only[aD];refine cB 23 33 (.bool true) rfl rfl hHeld ?_;simp only[aD];refine wpAnyH_done (by kernel_rfl) ?_ _;go_wp2_with fail;go_ret;exact ⟨aN HF.symm,aY⟩
  |true=>
   have HT:=aa hr;clear hr;rcases Nat.eq_zero_or_pos k with MQ|MQ
   ·subst MQ
    simp only[Nat.zero_mul,Nat.add_zero] at r0 r1 r2 r3 r4 fN hlt ⊢;go_wp2_with fail;refine wp_region_held_drew (S:=fun w'=>w'.cell? ⟨g,o,none⟩=some (.int .i64 s.id)∧w'.cell? ⟨g,o+1,none⟩=some (.int .i64 s.size)∧w'.cell? ⟨g,o+2,none⟩=some a∧w'.cell? ⟨g,o+3,none⟩=some b∧w'.cell? ⟨g,o+4,none⟩=some c) (by kernel_rfl) ⟨r0,r1,r2,r3,r4⟩ (fun hHeld=>?_);refine cB 0 10 (.slice (some ⟨g,o,none⟩) N cp) rfl rfl hHeld ?_;simp only[aD];refine cB 1 11 (.int .i64 0) rfl rfl hHeld ?_;simp only[aD];refine cB 2 12 (.pointer (some ⟨g,o,none⟩)) rfl rfl hHeld ?_;simp only[aD];refine cB 3 13 (.agg #[.int .i64 s.id,.int .i64 s.size,a,b,c]) rfl rfl hHeld ?_;simp only[aD];refine kh 4 rfl (fun K hK=>?_);go_simp;refine (lY s _ _ HX HM).mono ?_;rintro e w1 ⟨rfl,hb⟩;have aY:=aa (ak HB.drew hb);have gq:=aa (show _∧_∧_∧_∧_ from ⟨ae hb r0,ae hb r1,ae hb r2,ae hb r3,ae hb r4⟩);clear hb hHeld r0 r1 r2 r3 r4;rw[HT.o];go_simp;refine hK.out _ _ gq (fun hHeld=>?_);clear hK K;refine cB 5 15 (.bool false) rfl rfl hHeld ?_;simp only[aD];refine cB 6 16 (.bool false) rfl rfl hHeld ?_;simp only[aD];refine cB 7 17 (.int .i64 0) rfl rfl hHeld ?_;simp only[aD];refine cB 8 18 (.bool false) rfl rfl hHeld ?_;simp only[aD];refine cB 9 19 (.bool false) rfl rfl hHeld ?_;simp only[aD];refine nO 10 20 rfl rfl hHeld ?_;simp only[aD];refine nO 11 21 rfl rfl hHeld ?_;simp only[aD];refine nO 12 22 rfl rfl hHeld ?_;simp only[aD];refine nO 13 23 rfl rfl hHeld ?_;simp only[aD];refine nO 14 24 rfl rfl hHeld ?_;simp only[aD];refine nO 15 25 rfl rfl hHeld ?_;simp only[aD];refine nO 16 26 rfl rfl hHeld ?_;simp only[aD];refine nO 17 27 rfl rfl hHeld ?_;simp only[aD];refine nO 18 28 rfl rfl hHeld ?_;simp only[aD];refine nO 19 29 rfl rfl hHeld ?_;simp only[aD];refine nO 20 30 rfl rfl hHeld ?_;simp only[aD];refine nO 21 31 rfl rfl hHeld ?_;simp only[aD];refine cB 22 32 (.bool false) rfl rfl hHeld ?_;simp only[aD];refine cB 23 33 (.bool false) rfl rfl hHeld ?_;simp only[aD];refine wpAnyH_done (by kernel_rfl) ?_ _;go_wp2_with fail;go_roundw
    case rel=>
     refine ⟨1,by omega,by go_num,fun j a' hj ji=>?_,fun j a b hj=>by omega,aY.o⟩;obtain rfl:j=0:=by omega
     rw[HS.o] at ji;cases ji;exact HT.o
    case measure=>simp[intOf];omega
   ·obtain ⟨m,hm⟩:∃m,k=m+1:=⟨k-1,by omega⟩
    obtain ⟨t,ht⟩:=fx (l:=x) (k:=m) (by rw[HN.o];omega);obtain ⟨_,_,g',o',a',b',c',LU,f0,_⟩:=HA.o m t ht;cases LU;have t0:wr.drew.cell? ⟨g,o+m*5,none⟩=some (.int .i64 t.id):=ae HB f0;have e5:IntKind.i64.wrap ((k:Int)-1)=(m:Int):=by rw[IntKind.wrap_i64];omega
    have e6:(m:Int)<(N:Int):=(by omega);have hg3:decide (0<k)=true:=by simpa using MQ
    have HTT:=aa ht;have rZ:=aa hm;clear ht hm f0;by_cases BM:t.id<s.id
    ·have Qb:decide (s.id≤t.id)=false:=by rw[decide_eq_false_iff_not];omega
     have HXY:=aa BM;clear BM;go_wp2_with fail;go_region_held3 (fun w'=>w'.cell? ⟨g,o+k*5,none⟩=some (.int .i64 s.id)∧w'.cell? ⟨g,o+k*5+1,none⟩=some (.int .i64 s.size)∧w'.cell? ⟨g,o+k*5+2,none⟩=some a∧w'.cell? ⟨g,o+k*5+3,none⟩=some b∧w'.cell? ⟨g,o+k*5+4,none⟩=some c∧w'.cell? ⟨g,o+m*5,none⟩=some (.int .i64 t.id))
      (first|exact ⟨r0,r1,r2,r3,r4,t0⟩|exact gq.o)
      (((with_reducible refine (lY s _ _ HX.o HM.o).mono ?_);rintro e w1 ⟨rfl,hb⟩;rw[HT.o];have aY:=aa (ak HB.o.drew hb);have gq:=aa (show _∧_∧_∧_∧_∧_ from ⟨ae hb r0,ae hb r1,ae hb r2,ae hb r3,ae hb r4,ae hb t0⟩);clear hb))
     clear r0 r1 r2 r3 r4 t0;go_wp2_with fail;go_roundw
     case rel=>
      refine ⟨k+1,by omega,by go_num,fun j a' hj ji=>?_,fun j a' b' hj ji BB=>?_,aY.o⟩
      ·by_cases e:j=k
       ·subst e;rw[HS.o] at ji;cases ji;exact HT.o
       ·exact ed j a' (by omega) ji
      ·by_cases e:j+1=k
       ·obtain rfl:j=m:=by have:=rZ.o;omega
        rw[HTT.o] at ji;rw[e,HS.o] at BB;cases ji;cases BB;exact HXY.o
       ·exact Xg j a' b' (by omega) ji BB
     case measure=>simp[intOf];omega
    ·have Qb:decide (s.id≤t.id)=true:=by rw[decide_eq_true_eq];omega
     have Xb:s.id≤t.id:=(by omega);have HF:=aa (qq HTT (show x[m+1]?=some s by rw[← rZ.o];exact HS) BM);clear BM;go_wp2_with fail;go_region_held3 (fun w'=>w'.cell? ⟨g,o+k*5,none⟩=some (.int .i64 s.id)∧w'.cell? ⟨g,o+k*5+1,none⟩=some (.int .i64 s.size)∧w'.cell? ⟨g,o+k*5+2,none⟩=some a∧w'.cell? ⟨g,o+k*5+3,none⟩=some b∧w'.cell? ⟨g,o+k*5+4,none⟩=some c∧w'.cell? ⟨g,o+m*5,none⟩=some (.int .i64 t.id))
      (first|exact ⟨r0,r1,r2,r3,r4,t0⟩|exact gq.o)
      (((with_reducible refine (lY s _ _ HX.o HM.o).mono ?_);rintro e w1 ⟨rfl,hb⟩;rw[HT.o];have aY:=aa (ak HB.o.drew hb);have gq:=aa (show _∧_∧_∧_∧_∧_ from ⟨ae hb r0,ae hb r1,ae hb r2,ae hb r3,ae hb r4,ae hb t0⟩);clear hb))
     clear r0 r1 r2 r3 r4 t0;go_wp2_with fail;go_ret;exact ⟨aN HF.symm,aY⟩
noncomputable def mask (F:Nat→Prop) (w:World):World:={w with heap:=w.heap.mapIdx fun i o => @ite _ (F i) (Classical.propDecidable _) o (.map #[] 0)}
theorem aq {a:Addr}:(mask F w).cell? a=some v↔F a.block∧w.cell? a=some v:=by
 unfold mask World.cell?;simp only[Array.getElem?_mapIdx];cases h:w.heap[a.block]? with
 |none=>simp
 |some o=>
  by_cases hf:F a.block
  ·simp[hf]
  ·simp[hf]
theorem bF {F':Nat→Prop} (h:∀(a:Addr) (v:Value),F a.block→w.cell? a=some v→F' a.block∧w'.cell? a=some v):dI (mask F w) (mask F' w'):=fun a v hv=>by rw[aq] at hv ⊢;exact h a v hv.1 hv.2
theorem nE :dI (mask F w) w:=fun _a _v hv=>(aq.1 hv).2
def qu (d:dx) (r:Value×Value×Value):List Value:=[.int .i64 d.id,.int .i64 d.size,r.1,r.2.1,r.2.2]
def fO (l:List (dx×(Value×Value×Value))):List Value:=(l.map fun x=>qu x.1 x.2).flatten
theorem ur (l:List (dx×(Value×Value×Value))) (x:dx×(Value×Value×Value)):fO (l++[x])=fO l++qu x.1 x.2:=by unfold fO;rw[List.map_append,List.flatten_append];simp
theorem mS (l:List (dx×(Value×Value×Value))):(fO l).length=l.length*5:=by
 induction l with
 |nil=>rfl
 |cons a l ih=>unfold fO qu at ih ⊢;simp only[List.map_cons,List.flatten_cons,List.length_append,List.length_cons,List.length_nil,ih];omega
theorem lq (l:List (dx×(Value×Value×Value))):∀(i:Nat) x,l[i]?=some x→∀j u,(qu x.1 x.2)[j]?=some u→(fO l)[i*5+j]?=some u:=by
 induction l with
 |nil=>intro i x h;simp at h
 |cons a l ih=>
  intro i x h j u hj;have e:fO (a::l)=qu a.1 a.2++fO l:=by unfold fO;simp
  have e5:(qu a.1 a.2).length=5:=rfl;rw[e];cases i with
  |zero=>simp only[List.getElem?_cons_zero,Option.some.injEq] at h;subst h;have D7:=(List.getElem?_eq_some_iff.1 hj).1;rw[Nat.zero_mul,Nat.zero_add,List.getElem?_append_left D7];exact hj
  |succ i=>rw[List.getElem?_cons_succ] at h;rw[List.getElem?_append_right (by omega),e5,show (i+1)*5+j-5=i*5+j by omega];exact ih i x h j u hj
def D8 (w:World) (B:Nat) (v:Value) (l:List dx):Prop:=
 ∃xs:List (dx×(Value×Value×Value)),xs.map Prod.fst=l∧w.ownsRow B 75 5 v l.length (fO xs)∧∀x∈xs,aQ x.1.id∧aQ x.1.size∧bn (mask (fun b=>some b≠v.ownBlock) w) x.1.map x.2.1 x.2.2.1 x.2.2.2
theorem D8.at {w:World} {B:Nat} {v:Value} {l:List dx} (h:D8 w B v l):eQ w v l:=by
 obtain ⟨xs,rfl,hown,hx⟩:=h;rw[List.length_map] at hown;rcases aJ hown with ⟨hv,hn,_⟩|⟨g,cap,hv⟩
 ·exact ⟨none,0,by rw[hv,List.length_map,hn],by rw[List.length_map];omega,by unfold maxLen;omega,fun i x hx=>by rw[List.eq_nil_of_length_eq_zero hn] at hx;simp at hx⟩
 ·subst hv
  obtain ⟨_,_,_,h3,h4,_⟩:=bl hown;refine ⟨_,cap,by rw[List.length_map],by rw[List.length_map];exact h3,h4,fun i d hd=>?_⟩;rw[List.getElem?_map] at hd;cases u9:xs[i]? with
  |none=>rw[u9] at hd;simp at hd
  |some x=>
   rw[u9] at hd;simp only[Option.map_some,Option.some.injEq] at hd;subst hd;obtain ⟨i1,i2,i3⟩:=hx x (List.mem_of_getElem? u9);have hl:=mS xs;have hi:=(List.getElem?_eq_some_iff.1 u9).1;have hc:∀j u,(qu x.1 x.2)[j]?=some u→w.cell? ⟨g,0+i*5+j,none⟩=some u:=fun j u hj=>by have h5:j<5:=(List.getElem?_eq_some_iff.1 hj).1;have h6:=lq xs i x u9 j u hj;obtain ⟨h7,h8⟩:=List.getElem?_eq_some_iff.1 h6;rw[Nat.zero_add,bG hown (i*5+j) h7,h8]
   exact ⟨i1,i2,g,0,x.2.1,x.2.2.1,x.2.2.2,rfl,hc 0 _ rfl,hc 1 _ rfl,hc 2 _ rfl,hc 3 _ rfl,hc 4 _ rfl,i3.keep nE⟩
theorem QJ:(prog.info? 75).map (fun i=>(i.zero,i.size,i.bytes))=some (some (.agg #[.int .i64 0,.int .i64 0,.slice none 0 0,.slice none 0 0,.slice none 0 0]),5,88):=by kernel_rfl
def gH (w:World) (c:Nat) (s:vw):Prop:=w.heap[c]?=some (.cells #[.int .i64 s.1,.bool s.2.1,.int .i64 s.2.2] 264 (0,0))
theorem gH.lt {s:vw} (h:gH w c s):c<w.heap.size:=(Array.getElem?_eq_some_iff.1 h).1
theorem gH.c0 {s:vw} (h:gH w c s):w.cell? ⟨c,0,none⟩=some (.int .i64 s.1):=by unfold gH at h;simp[World.cell?,h]
theorem gH.c1 {s:vw} (h:gH w c s):w.cell? ⟨c,1,none⟩=some (.bool s.2.1):=by unfold gH at h;simp[World.cell?,h]
theorem gH.c2 {s:vw} (h:gH w c s):w.cell? ⟨c,2,none⟩=some (.int .i64 s.2.2):=by unfold gH at h;simp[World.cell?,h]
theorem gH.fr {s:vw} (h:gH w c s) (j:Nat):w.frozen? ⟨c,j,none⟩=false:=by unfold gH at h;simp[World.frozen?,h]
theorem gH.qw {s:vw} (h:gH w c s) (d:Int):gH (w.setCell ⟨c,0,none⟩ (.int .i64 d)) c (d,s.2):=by unfold gH at h ⊢;rw[setCell_eq_setRow w c 0 _ _ _ _ h,setRow_heap w c _ _ _ _ h];rfl
theorem gH.zw {s:vw} (h:gH w c s) (b:Bool):gH (w.setCell ⟨c,1,none⟩ (.bool b)) c (s.1,(b,s.2.2)):=by unfold gH at h ⊢;rw[setCell_eq_setRow w c 1 _ _ _ _ h,setRow_heap w c _ _ _ _ h];rfl
theorem gH.yt {s:vw} (h:gH w c s) (k:Int):gH (w.setCell ⟨c,2,none⟩ (.int .i64 k)) c (s.1,(s.2.1,k)):=by unfold gH at h ⊢;rw[setCell_eq_setRow w c 2 _ _ _ _ h,setRow_heap w c _ _ _ _ h];rfl
theorem gH.grown {s:vw} {row:Option Nat} (h:gH w c s) (hg:w.grownBy w' row) (hne:some c≠row):gH w' c s:=by unfold gH at h ⊢;rw[hg.block c (Array.getElem?_eq_some_iff.1 h).1 hne];exact h
theorem av (w:World) (c j:Nat) (v:Value):w.grownBy (w.setCell ⟨c,j,none⟩ v) (some c):=by refine ⟨rfl,rfl,rfl,by simp,fun k hk hne=>?_⟩;have:k≠c:=fun e=>hne (by rw[e]);exact Below.heap_setCell _ _ _ k this
theorem zx (w:World) (row:Option Nat):w.grownBy w.drew row:=⟨rfl,rfl,rfl,aT,fun _ _ _=>rfl⟩
theorem xh (w:World) (q:Nat) (row:Option Nat):w.grownBy (w.drewN q) row:=⟨rfl,rfl,rfl,aT,fun _ _ _=>rfl⟩
theorem F2 (h:w.grownBy w' (some c)) (hc:c≤w.heap.size):Below c w w':=⟨h.os,h.tape,h.output,h.size,fun k hk=>h.block k (by omega) (fun e=>by injection e with e;omega)⟩
abbrev JO (c:Nat):Nat→Prop:=fun b=>b≠c
theorem th (h:bn (mask (JO c) w) t x y z) (hg:w.grownBy w' (some c)):bn (mask (JO c) w') t x y z:=
 h.keep (bF fun a v hf hv=>⟨hf,hg.cell hv (fun e=>hf (by injection e))⟩)
def gU (o:Option vw) (c:Nat) (w w':World):Prop:=(∀s',o=some s'→gH w' c s')∧w.grownBy w' (some c)
theorem gU.no (h:w.grownBy w' (some c)):gU none c w w':=⟨fun _ h=>(by cases h),h⟩
theorem gU.yes {s:vw} (hs:gH w' c s) (h:w.grownBy w' (some c)):gU (some s) c w w':=⟨fun _ h=>(by cases h;exact hs),h⟩
theorem masked {a:Addr} (h:(mask (JO c) w).cell? a=some v):a.block≠c∧w.cell? a=some v:=aq.1 h
theorem QK (ks vs:List Int) (kids:List ag) (x y z:Value) (c:Nat) (s:vw) (depth:Int) (w:World) (hn:bn (mask (JO c) w) (.mk ks vs kids) x y z) (hc:gH w c s) :
 Calls prog 229 #[.pointer (some ⟨c,0,none⟩),.agg #[x,y,z],.int .i64 depth] w fun e w'=>e=.returned (.bool (lV ks vs depth s).isSome)∧gU (lV ks vs depth s) c w w':=by
 obtain ⟨⟨pa,ca,rfl,a1,a2,ha⟩,⟨pb,cb,rfl,b1,b2,_⟩,⟨pc,cc,rfl,_,_,_⟩⟩:=bA.1 hn;simp only[ag.keys,ag.vals,ag.kids] at a1 b1 ha ⊢;obtain ⟨K,hK⟩:=aG ks.length;obtain ⟨M,hM⟩:=aG vs.length;obtain ⟨N,hN⟩:=aG kids.length;rw[hK] at a1 ⊢;rw[hM] at b1 ⊢;rw[hN];have hla:=fG (n:=K) a2;have hlb:=fG (n:=M) b2;have vn:=aa hK;have pY:=aa hM;have WZ:=aa ha;have HC:=aa hc;have ain:=hc.lt;have QL:c≠w.heap.size:=by omega
 have hL:lV ks vs depth s=if M=K∧(s.1=0∨s.1=depth) then (gW ks s.2).map fun q=>(depth,q) else none:=by unfold lV;rw[hK,hM]
 have HL:=aa hL;have hg0:w.grownBy (w.alloc (.cells #[.slice pa K ca,.slice pb M cb,.slice pc N cc] 73)) (some c):=World.grownBy_alloc _ _ _;have Fa:=aa hg0;have JP:=aa (hc.grown (World.grownBy_alloc w (.cells #[.slice pa K ca,.slice pb M cb,.slice pc N cc] 73) none) (by simp));clear hn ha a1 a2 b1 b2 hK hM hN hL hg0 hc;by_cases hv:M=K
 case neg=>
  have hne:((M:Int) != (K:Int))=true:=by rw[bne_iff_ne];omega
  have HF:=aa (show lV ks vs depth s=none by rw[HL.o,if_neg (fun h=>hv h.1)]);clear hv;go_enter func229,ntmps229;go_wp2_with fail;go_ret;exact ⟨aN (by rw[HF.o];rfl),by rw[HF.o];exact gU.no Fa⟩
 have hne:((M:Int) != (K:Int))=false:=by rw[hv];simp
 have q0:=JP.c0;have qf:=JP.fr 0;by_cases hs:s.1=0∨s.1=depth
 case neg=>
  have HF:=aa (show lV ks vs depth s=none by rw[HL.o,if_neg (fun h=>hs h.2)]);have hz:(s.1==0)=false:=by rw[beq_eq_false_iff_ne];exact fun h=>hs (.inl h)
  have hz2:(s.1 != depth)=true:=by rw[bne_iff_ne];exact fun h=>hs (.inr h)
  clear hv hs;go_enter func229,ntmps229;go_wp2_with fail;go_ret;exact ⟨aN (by rw[HF.o];rfl),by rw[HF.o];exact gU.no Fa⟩
 have HF:=aa (show lV ks vs depth s=(gW ks s.2).map fun q=>(depth,q) by rw[HL.o,if_pos ⟨hv,hs⟩]);subst hv;have hz2:(depth != depth)=false:=by simp
 have HS:=aa hs;clear hs;have UL:(s.1=0)∨((s.1==0)=false∧s.1=depth):=by
  by_cases h0:s.1=0
  ·exact .inl h0
  ·refine .inr ⟨by simpa using h0,?_⟩
   rcases HS.o with h|h
   ·exact absurd h h0
   ·exact h
 have Fb:=aa (show gN w.heap.size (.slice pa M ca) (.slice pb M cb) (.slice pc N cc) (w.alloc (.cells #[.slice pa M ca,.slice pb M cb,.slice pc N cc] 73)) from ⟨by simp,by simp,by simp⟩);obtain ⟨WA,kK⟩:∃W,w.alloc (.cells #[.slice pa M ca,.slice pb M cb,.slice pc N cc] 73)=W:=⟨_,rfl⟩
 rw[kK] at Fb JP Fa q0 qf;have UM:=aa kK;clear kK hne;obtain ⟨x0,x1,x2⟩:=Fb.o;have hlx:=World.block_lt_of_cell? _ _ x0;have Xg:=aa UL;clear UL;go_enter func229,ntmps229;go_upto_region 1 with fail;rw[UM.o];go_upto_if 20 with fail;go_cut [] from 20 to 24 (fun wx=>gH wx c (depth,s.2)∧w.grownBy wx (some c)∧gN w.heap.size (.slice pa M ca) (.slice pb M cb) (.slice pc N cc) wx)
 case first=>
  rcases Xg.o with h0|⟨h0,h1⟩
  ·have hz:(s.1==0)=true:=by rw[h0];rfl
   clear h0;go_wp2_with fail;go_meet
   case rel=>exact ⟨JP.qw depth,Fa.trans (av WA c 0 (.int .i64 depth)),Fb.grown (av WA c 0 (.int .i64 depth)) (by intro e;injection e with e;omega)⟩
  ·have HH:=aa h1
   clear h1;go_wp2_with fail;go_meet
   case rel=>refine ⟨?_,Fa,Fb⟩;have:=JP.o;rw[show s=(depth,s.2) from Prod.ext HH.o rfl] at this;exact this
 case rest=>
  obtain ⟨hc1,hg1,hx1⟩:=hcut;have sX:=aa hc1;have LV:=aa hg1;have aU:=aa hx1;clear hc1 hg1 x0 x1 x2 hlx q0 qf JP Fa Fb UM Xg;obtain ⟨x0,x1,x2⟩:=hx1;have hlx:=World.block_lt_of_cell? _ _ x0;have q0:=sX.c0;simp only at q0;go_wp2_with fail;go_loopw [34,8] (fun i _ wr=>∃(k:Nat) (st:MR),k≤M∧i=.int .i64 k∧gW ks s.2=gW (ks.drop k) st∧gH wr c (depth,st)∧w.grownBy wr (some c)) (fun i _ _=>M-(intOf i).toNat)
  case atStart=>exact ⟨0,s.2,dO,rfl,by rw[List.drop_zero],sX,LV⟩
  case round=>
   clear x0 x1 x2 hlx q0;obtain ⟨k,st,hk,rfl,Qe,Yl,hgr⟩:=hrel;have HK:=aa Qe;have F3:=aa Yl;have zy:=aa hgr;clear Qe Yl hgr;by_cases hlt:k<M
   case neg=>
    obtain rfl:k=M:=by omega
    have HS:=aa (show lV ks vs depth s=some (depth,st) by rw[HF.o,HK.o,List.drop_of_length_le (by rw[vn.o];exact aT)];rfl);go_wp2_with fail;go_ret;exact ⟨aN (by rw[HS.o];rfl),by rw[HS.o];exact gU.yes F3 zy⟩
   have fN:(k:Int)<(M:Int):=(by omega);obtain ⟨y,hy⟩:=fx (l:=ks) (k:=k) (by rw[vn.o];exact hlt);obtain ⟨_,ga,oa,rfl,QM⟩:=WZ.o k y hy;obtain ⟨hne,QM⟩:=masked QM;have ry:=zy.cell QM (fun e=>hne (by injection e));have hd:ks.drop k=y::ks.drop (k+1):=by obtain ⟨hk2,hx⟩:=List.getElem?_eq_some_iff.1 hy;rw[List.drop_eq_getElem_cons hk2,hx]
   have HD:=aa hd;have Qx:=aa hne;obtain ⟨bg,la⟩:=st;have p1:=F3.c1;have p2:=F3.c2;have f1:=F3.fr 1;have f2:=F3.fr 2;simp only at p1 p2;clear hy hd QM hne;by_cases xj:bg=true∧y≤la
   ·obtain ⟨rfl,hyl⟩:=xj
    have HS:=aa (show lV ks vs depth s=none by rw[HF.o,HK.o,HD.o];simp only[gW];rw[if_pos ⟨trivial,hyl⟩];rfl);have Qb:decide (y≤la)=true:=decide_eq_true hyl;go_wp2_with fail;go_ret;exact ⟨aN (by rw[HS.o];rfl),by rw[HS.o];exact gU.no zy⟩
   ·have HS:=aa (show gW ks s.2=gW (ks.drop (k+1)) (true,y) by rw[HK.o,HD.o];simp only[gW];rw[if_neg xj])
    have hb:bg=false∨(bg=true∧decide (y≤la)=false):=by
     cases bg
     ·exact .inl rfl
     ·exact .inr ⟨rfl,decide_eq_false (fun h=>xj ⟨rfl,h⟩)⟩
    clear xj;rcases hb with rfl|⟨rfl,Qb⟩
    all_goals
     go_wp2_with fail;go_roundw
     case rel=>exact ⟨k+1,(true,y),by omega,by go_num,HS.o,(F3.o.zw true).yt y,(zy.o.trans (av _ c 1 _)).trans (av _ c 2 _)⟩
     case measure=>simp[intOf];omega
theorem F4 {y:Int} {st:vw} (h:u.keys.length=0∨u.keys.head?≠some y):jx (u::us) (y::ys) depth st=none:=by simp only[jx];exact if_pos h
theorem JQ {y:Int} {st:vw} (h:ig u (depth+1) st=none):jx (u::us) (y::ys) depth st=none:=by simp only[jx];rw[h];split <;> rfl
theorem QN {y:Int} {st Xh:vw} (h1:u.keys.length≠0) (h2:u.keys.head?=some y) (h:ig u (depth+1) st=some Xh):jx (u::us) (y::ys) depth st=jx us ys depth Xh:=by simp only[jx];rw[h];exact if_neg (by rintro (e|e);exact h1 e;exact e h2)
theorem MX {b:Nat} (h:gN b x y z W) (hg:W.grownBy W' (some c)) (hne:b≠c):gN b x y z W':=h.grown hg (fun e=>hne (by injection e))
theorem QO (t:ag):∀(x y z:Value) (c:Nat) (s:vw) (depth:Int) (w:World),bn (mask (JO c) w) t x y z→gH w c s→1≤depth→depth≤41 →
 Calls prog 213 #[.pointer (some ⟨c,0,none⟩),.agg #[x,y,z],.int .i64 depth] w fun e w'=>e=.returned (.bool (ig t depth s).isSome)∧gU (ig t depth s) c w w':=by
 induction t using ag.ind with
 |h ks vs kids ih=>
  intro x y z c s depth w hn hc D9 QP;have zh:=aa ih;clear ih;have zl:=aa hn;obtain ⟨⟨pa,ca,rfl,a1,a2,ha⟩,⟨pb,cb,rfl,b1,b2,_⟩,⟨pc,cc,rfl,c1,c2,hk⟩⟩:=bA.1 hn;simp only[ag.keys,ag.vals,ag.kids] at a1 b1 c1 ha hk zl ⊢;have HK:=aa hk;have WZ:=aa ha;clear hk hn ha;obtain ⟨K,hK⟩:=aG ks.length;obtain ⟨M,hM⟩:=aG vs.length;obtain ⟨N,hN⟩:=aG kids.length;rw[hK] at a1 zl ⊢;rw[hM] at b1 zl ⊢;rw[hN] at c1 zl ⊢;have hla:=fG (n:=K) a2;have hlb:=fG (n:=M) b2;have hlc:=fG (n:=N) c2;have vn:=aa hK;have pY:=aa hM;have ll:=aa hN;have kJ:=aa (show ig (.mk ks vs kids) depth s=if depth>40∨K>4∨(depth>1∧K<2) then none else if N=0 then lV ks vs depth s else if M≠0∨N≠K∨N<2 then none else jx kids ks depth s by simp only[ig];rw[hK,hM,hN]);have ain:=hc.lt;have QL:c≠w.heap.size:=by omega
  have hg0:w.grownBy (w.alloc (.cells #[.slice pa K ca,.slice pb M cb,.slice pc N cc] 73)) (some c):=World.grownBy_alloc _ _ _;have Fa:=aa hg0;have JP:=aa (hc.grown (World.grownBy_alloc w (.cells #[.slice pa K ca,.slice pb M cb,.slice pc N cc] 73) none) (by simp));have Yh:=aa (th zl hg0);clear a1 b1 c1 a2 b2 c2 hK hM hN hg0 hc;by_cases hA:depth>40∨K>4∨(depth>1∧K<2)
  ·have HF:=aa (show ig (.mk ks vs kids) depth s=none by rw[kJ.o,if_pos hA])
   have JR:(decide (40<depth)=true)∨(decide (40<depth)=false∧decide (4<K)=true)∨(decide (40<depth)=false∧decide (4<K)=false∧decide (1<depth)=true∧decide (K<2)=true):=by simp only[decide_eq_true_eq,decide_eq_false_iff_not];omega
   clear hA;rcases JR with h1|⟨h1,h2⟩|⟨h1,h2,h3,h4⟩
   ·go_enter func213,ntmps213
    go_wp2_with fail;go_ret;exact ⟨aN (by rw[HF.o];rfl),by rw[HF.o];exact gU.no Fa.o⟩
   ·have Cm:(4:Int)<(K:Int):=by simp only[decide_eq_true_eq] at h2;omega
    go_enter func213,ntmps213;go_wp2_with fail;go_ret;exact ⟨aN (by rw[HF.o];rfl),by rw[HF.o];exact gU.no Fa⟩
   ·have Cm:¬(4:Int)<(K:Int):=by simp only[decide_eq_false_iff_not] at h2;omega
    have h4':(K:Int)<2:=by simp only[decide_eq_true_eq] at h4;omega
    go_enter func213,ntmps213;go_wp2_with fail;go_ret;exact ⟨aN (by rw[HF.o];rfl),by rw[HF.o];exact gU.no Fa⟩
  have JS:=aa (show ig (.mk ks vs kids) depth s=if N=0 then lV ks vs depth s else if M≠0∨N≠K∨N<2 then none else jx kids ks depth s by rw[kJ.o,if_neg hA]);have h1:decide (40<depth)=false:=by rw[decide_eq_false_iff_not];omega
  have Cm:¬(4:Int)<(K:Int):=by omega
  have h3:(decide (1<depth)=false)∨(decide (1<depth)=true∧¬(K:Int)<2):=by
   by_cases h:1<depth
   ·exact .inr ⟨decide_eq_true h,by omega⟩
   ·exact .inl (decide_eq_false h)
  have ap0:depth≤40:=by omega
  have H3:=aa h3;clear hA kJ h3;go_enter func213,ntmps213;go_upto_region 1 with fail;obtain ⟨WA,kK⟩:∃W,w.alloc (.cells #[.slice pa K ca,.slice pb M cb,.slice pc N cc] 73)=W:=⟨_,rfl⟩
  have Fb:=aa (show gN w.heap.size (.slice pa K ca) (.slice pb M cb) (.slice pc N cc) WA by rw[← kK];exact ⟨by simp,by simp,by simp⟩);rw[kK] at JP Fa Yh ⊢;clear kK;obtain ⟨x0,x1,x2⟩:=Fb.o;have hlx:=World.block_lt_of_cell? _ _ x0;go_cut [26] from 9 to 25 (fun v wx=>v=.bool false∧wx=WA)
  case first=>
   rcases H3.o with h3|⟨h3,h4⟩
   all_goals
    go_wp2_with fail;go_meet
    case rel=>exact ⟨rfl,rfl⟩
  case rest=>
  obtain ⟨rfl,rfl⟩:=hcut;have HBN:=Fb;by_cases hB:N=0
  ·have hz:((N:Int)==0)=true:=by rw[hB];rfl
   have HF:=aa (show ig (.mk ks vs kids) depth s=lV ks vs depth s by rw[JS.o,if_pos hB]);clear hB;go_wp2_with fail;refine (QK ks vs kids _ _ _ c s depth _ Yh JP).mono ?_;rintro e w1 ⟨rfl,hp⟩;have HP:=aa hp;clear hp;obtain ⟨Z,hZ⟩:=aG ((lV ks vs depth s).isSome);rw[hZ];have HZ:=aa hZ;clear hZ;go_wp2_with fail;go_ret;exact ⟨aN (by rw[HF.o];exact HZ.symm),by rw[HF.o];exact ⟨HP.1,Fa.trans HP.2⟩⟩
  have hz:((N:Int)==0)=false:=by rw[beq_eq_false_iff_ne];omega
  by_cases hC:M≠0∨N≠K∨N<2
  ·have HF:=aa (show ig (.mk ks vs kids) depth s=none by rw[JS.o,if_neg hB,if_pos hC])
   have JR:((M:Int) != 0)=true∨(((M:Int) != 0)=false∧((N:Int) != (K:Int))=true)∨(((M:Int) != 0)=false∧((N:Int) != (K:Int))=false∧(N:Int)<2):=by simp only[bne_iff_ne,bne_eq_false_iff_eq,ne_eq];omega
   clear hC hB;rcases JR with h1|⟨h1,h2⟩|⟨h1,h2,h3⟩
   all_goals
    go_wp2_with fail;go_ret;exact ⟨aN (by rw[HF.o];rfl),by rw[HF.o];exact gU.no Fa⟩
  have HF:=aa (show ig (.mk ks vs kids) depth s=jx kids ks depth s by rw[JS.o,if_neg hB,if_neg hC]);have UC:((M:Int) != 0)=false:=by rw[bne_eq_false_iff_eq];omega
  have hnk:((N:Int) != (K:Int))=false:=by rw[bne_eq_false_iff_eq];omega
  have hn2:¬(N:Int)<2:=by omega
  have hNK:N=K:=by omega
  have UN:=aa hNK;clear hB hC hNK JS h1 Cm;go_wp2_with fail;go_loopw [57,7,8] (fun i _ _ wr=>∃(k:Nat) (st:vw),k≤N∧i=.int .i64 k∧jx kids ks depth s=jx (kids.drop k) (ks.drop k) depth st∧gH wr c st∧gN w.heap.size (.slice pa K ca) (.slice pb M cb) (.slice pc N cc) wr∧bn (mask (JO c) wr) (.mk ks vs kids) (.slice pa K ca) (.slice pb M cb) (.slice pc N cc)∧w.grownBy wr (some c)) (fun i _ _ _=>N-(intOf i).toNat)
  case atStart=>exact ⟨0,s,dO,rfl,by rw[List.drop_zero,List.drop_zero],JP,Fb,Yh,Fa⟩
  case round=>
   clear x0 x1 x2 hlx hz;obtain ⟨k,st,hk,rfl,Qe,Yl,fI,WX,hgr⟩:=hrel;have UO:=aa Qe;have F3:=aa Yl;have zy:=aa hgr;have HX:=aa fI;have BF:=aa WX;clear Qe Yl hgr WX;obtain ⟨x0,x1,x2⟩:=fI;have hlx:=World.block_lt_of_cell? _ _ x0;simp only at hlx;by_cases hlt:k<N
   case neg=>
    obtain rfl:k=N:=by omega
    have HS:=aa (show ig (.mk ks vs kids) depth s=some st by rw[HF.o,UO.o,List.drop_of_length_le (by rw[ll.o];exact aT)];simp only[jx]);go_wp2_with fail;go_ret;exact ⟨aN (by rw[HS.o];rfl),by rw[HS.o];exact gU.yes F3 zy⟩
   have fN:(k:Int)<(N:Int):=(by omega);have hkk:(k:Int)<(K:Int):=by have:=UN.o;omega
   obtain ⟨u,hu⟩:=fx (l:=kids) (k:=k) (by rw[ll.o];exact hlt);obtain ⟨y,hy⟩:=fx (l:=ks) (k:=k) (by rw[vn.o];omega);have TX:kids.drop k=u::kids.drop (k+1):=by obtain ⟨hk2,hx⟩:=List.getElem?_eq_some_iff.1 hu;rw[List.drop_eq_getElem_cons hk2,hx]
   have hdy:ks.drop k=y::ks.drop (k+1):=by obtain ⟨hk2,hx⟩:=List.getElem?_eq_some_iff.1 hy;rw[List.drop_eq_getElem_cons hk2,hx]
   have Ym:=UO.o;rw[TX,hdy] at Ym;have UQ:=aa Ym;obtain ⟨⟨p1,c1,UR,_,_,hak⟩,_,p3,c3,Xi,_,_,UI⟩:=bA.1 BF.o;simp only[ag.keys,ag.kids] at UR hak Xi UI;obtain ⟨g,o,a,b,d,hpc,e1,e2,e3,e4⟩:=UI k u hu;injection Xi with Xi hpx1 hpx2;rw[← Xi] at hpc;subst hpc;obtain ⟨_,ga,oa,QQ,QM⟩:=hak k y hy;injection UR with UR hpy1 hpy2;rw[← UR] at QQ;subst QQ;obtain ⟨pu,nu,cu,pv,nv,cv,pw,nw,cw,rfl,rfl,rfl⟩:=aZ e4;obtain ⟨⟨pu',cu',hpu,QR,UT,huk⟩,_⟩:=bA.1 e4;injection hpu with hpu1 hpu2 hpu3;subst hpu1 hpu2 hpu3;have r1:=(masked e1).2;have r2:=(masked e2).2;have r3:=(masked e3).2;have ry:=(masked QM).2;have acw:=(masked e1).1;have Xj:=(masked QM).1;simp only at acw Xj;have HNU:=aa e4;have HM:=aa (List.mem_of_getElem? hu);have HUK:=aa huk;have ais:=World.block_lt_of_cell? _ _ r1;have halt:=World.block_lt_of_cell? _ _ ry;simp only at ais halt;obtain ⟨KU,hKU⟩:=aG u.keys.length;rw[hKU] at QR HNU r1;have HKU:=aa hKU;have vh:=fG (n:=KU) UT;have aY:=aa (show Bw wr (wr.alloc (.cells #[.slice pu KU cu,.slice pv nv cv,.slice pw nw cw] 73)) from ar);have HY:=aa hy;obtain ⟨W1,hW1⟩:∃W,wr.alloc (.cells #[.slice pu KU cu,.slice pv nv cv,.slice pw nw cw] 73)=W:=⟨_,rfl⟩
   have HXK:=aa (show gN wr.heap.size (.slice pu KU cu) (.slice pv nv cv) (.slice pw nw cw) W1 by rw[← hW1];exact ⟨by simp,by simp,by simp⟩);have HGA:=aa (show wr.grownBy W1 (some c) by rw[← hW1];exact World.grownBy_alloc _ _ _);rw[hW1] at aY;have ee:=aa hW1;have s0:=ae aY x0;have sy:=ae aY ry;obtain ⟨k0,k1,k2⟩:=HXK.o;have aqa:=F3.lt;clear hpx1 hpx2 hpy1 hpy2;clear hu hy TX hdy Ym UR Xi hak UI e1 e2 e3 e4 QM huk hKU hW1 QR UT;go_upto_region 10 with fail;rw[ee.o];clear r1 r2 r3 ry x0 x1 x2;rcases Nat.eq_zero_or_pos KU with hz0|hz0
   ·have HS:=aa (show ig (.mk ks vs kids) depth s=none by rw[HF.o,UQ.o,F4 (Or.inl (by rw[HKU.o];exact hz0))])
    have hzb:((KU:Int)==0)=true:=by rw[hz0];rfl
    clear hz0;go_quiet (fail);go_wp2_with fail;go_ret;exact ⟨aN (by rw[HS.o];rfl),by rw[HS.o];exact gU.no ((zy.trans HGA).trans (xh _ _ _))⟩
   have hzb:((KU:Int)==0)=false:=by rw[beq_eq_false_iff_ne];omega
   have aqb:(0:Int)<(KU:Int):=(by omega);obtain ⟨h,hh⟩:=fx (l:=u.keys) (k:=0) (by rw[HKU.o];exact hz0);obtain ⟨_,gh,oh,rfl,QA⟩:=HUK.o 0 h hh;simp only[Nat.add_zero] at QA;have sh:=ae aY (masked QA).2;have Xk:=(masked QA).1;simp only at Xk;have HHH:=aa (show u.keys.head?=some h by rw[List.head?_eq_getElem?];exact hh);clear hh QA;by_cases FP:h=y
   case neg=>
    have QB:(h != y)=true:=by rw[bne_iff_ne];exact FP
    have HS:=aa (show ig (.mk ks vs kids) depth s=none by rw[HF.o,UQ.o,F4 (Or.inr (by rw[HHH.o];intro e;injection e with e;exact FP e))]);clear FP;go_quiet (fail);go_wp2_with fail;go_ret;exact ⟨aN (by rw[HS.o];rfl),by rw[HS.o];exact gU.no ((zy.trans HGA).trans (xh _ _ _))⟩
   have QB:(h != y)=false:=by rw[FP];simp
   have HHY:=aa (show u.keys.head?=some y by rw[HHH.o,FP]);have Ea:=aa (show u.keys.length≠0 by rw[HKU.o];omega);clear FP;have hwd:IntKind.i64.wrap (depth+1)=depth+1:=IntWalk.i64_in _ (by omega);have HGD:=aa (show wr.grownBy W1.drew (some c) from HGA.trans (zx _ _));have yu:=aa (th HNU HGD);have HCD:=aa (show gH W1.drew c st from (F3.grown (show wr.grownBy W1.drew none from by rw[← ee.o];exact (World.grownBy_alloc wr _ none).trans (zx _ none)) (by simp)));obtain ⟨Z,hZ⟩:=aG (ig u (depth+1) st);have HZ:=aa hZ;obtain ⟨b,hb⟩:=aG Z.isSome;have jl:=aa hb;have acx:w.heap.size≠c:=fun e=>QL e.symm;have aia:(0:Int)≤(k:Int):=by omega
   have Yn:wr.heap.size≠c:=(by omega);clear hZ hb;go_region_held3 (fun w'=>w'.cell? ⟨wr.heap.size,0,none⟩=some (.slice (some ⟨gh,oh,none⟩) KU cu)∧w'.cell? ⟨wr.heap.size,1,none⟩=some (.slice pv nv cv)∧w'.cell? ⟨wr.heap.size,2,none⟩=some (.slice pw nw cw)∧w'.cell? ⟨w.heap.size,0,none⟩=some (.slice (some ⟨ga,oa,none⟩) K ca)∧w'.cell? ⟨gh,oh,none⟩=some (.int .i64 h)∧w'.cell? ⟨ga,oa+k,none⟩=some (.int .i64 y))
    (first|exact ⟨k0,k1,k2,s0,sh,sy⟩|exact gq.o)
    (((with_reducible refine (zh.o u HM.o _ _ _ c st (depth+1) _ yu.o HCD.o (by omega) (by omega)).mono ?_);rintro e w1 ⟨rfl,hp⟩;rw[HZ.o] at hp ⊢;rw[jl.o];have HP:=aa hp;have gq:=aa (show _∧_∧_∧_∧_∧_ from ⟨hp.2.cell (show W1.drew.cell? _=_ from k0) (fun e=>Yn (by injection e)),hp.2.cell (show W1.drew.cell? _=_ from k1) (fun e=>Yn (by injection e)),hp.2.cell (show W1.drew.cell? _=_ from k2) (fun e=>Yn (by injection e)),hp.2.cell (show W1.drew.cell? _=_ from s0) (fun e=>acx (by injection e)),hp.2.cell (show W1.drew.cell? _=_ from sh) (fun e=>Xk (by injection e)),hp.2.cell (show W1.drew.cell? _=_ from sy) (fun e=>Xj (by injection e))⟩);clear hp))
   clear k0 k1 k2 s0 sh sy;cases b with
   |false=>have HZN:=aa (show Z=none by have:=jl.o;cases Z with|none=>rfl|some z=>exact absurd this (by simp));have HS:=aa (show ig (.mk ks vs kids) depth s=none by rw[HF.o,UQ.o,JQ (by rw[HZ.o];exact HZN)]);go_wp2_with fail;go_ret;exact ⟨aN (by rw[HS.o];rfl),by rw[HS.o];exact gU.no ((zy.trans HGD).trans HP.2)⟩
   |true=>
    obtain ⟨Xh,hst⟩:∃Xh,Z=some Xh:=Option.isSome_iff_exists.1 jl.o;have HST:=aa hst;clear hst;have HS:=aa (show jx kids ks depth s=jx (kids.drop (k+1)) (ks.drop (k+1)) depth Xh by rw[UQ.o,QN Ea.o HHY.o (by rw[HZ.o];exact HST)]);have UU:=aa (HGD.trans HP.2);go_wp2_with fail;go_roundw
    case rel=>exact ⟨k+1,Xh,by omega,by go_num,HS.o,HP.o.1 Xh HST.o,MX HX.o UU.o acx,th BF.o UU.o,zy.o.trans UU.o⟩
    case measure=>simp[intOf];omega
theorem Eb (t:ag) (x y z:Value) (w:World) (hn:bn w t x y z):Calls prog 186 #[.agg #[x,y,z]] w fun e w'=>e=.returned (.bool (jN t))∧Bw w w':=by
 obtain ⟨pu,nu,cu,pv,nv,cv,pw,nw,cw,rfl,rfl,rfl⟩:=aZ hn;have HN:=aa hn;clear hn;have kB:=aa (show Bw w (w.alloc (.cells #[.slice pu nu cu,.slice pv nv cv,.slice pw nw cw] 73)) from ar);go_enter func186,ntmps186;go_wp2_with fail;obtain ⟨WA,kK⟩:∃W,w.alloc (.cells #[.slice pu nu cu,.slice pv nv cv,.slice pw nw cw] 73)=W:=⟨_,rfl⟩
 have hsz:WA.heap.size=w.heap.size+1:=by rw[← kK];simp
 rw[kK] at kB ⊢;rw[← hsz];have HN1:=aa (show bn (mask (JO WA.heap.size) (WA.alloc (.cells #[.int .i64 0,.bool false,.int .i64 0] 264))) t _ _ _ from HN.keep (fun a v hv=>aq.2 ⟨by have:=World.block_lt_of_cell? _ _ hv;show a.block≠_;omega,ae (ar) (ae kB hv)⟩));have sX:=aa (show gH (WA.alloc (.cells #[.int .i64 0,.bool false,.int .i64 0] 264)) WA.heap.size (0,(false,0)) from World.alloc_heap_new _ _);refine (QO t _ _ _ WA.heap.size (0,(false,0)) 1 _ HN1 sX (by omega) (by omega)).mono ?_;rintro e w1 ⟨rfl,hp⟩;rw[MU];have aY:=aa (show Bw w w1 from (kB.alloc kB.size _).trans ((F2 hp.2 (by simp)).mono (by omega)));clear hp kK hsz;go_wp2_with fail;go_ret;exact ⟨rfl,aY⟩
def r6:List Int→Int→Option Nat
 |[],_=>none
 |x::l,v=>if v=x then some 0 else (r6 l v).map (· + 1)
theorem vD:∀ {l:List Int} {v:Int} {i:Nat},r6 l v=some i→l[i]?=some v
 |[],v,i,h=>by simp[r6] at h
 |x::l,v,i,h=>by
  simp only[r6] at h
  split at h
  ·rename_i e;cases h;rw[e];rfl
  ·cases hq:r6 l v with
   |none=>rw[hq] at h;cases h
   |some j=>rw[hq] at h;cases h;rw[List.getElem?_cons_succ];exact vD hq
theorem Cs:∀ {l:List Int} {v:Int},r6 l v=none→v∉l
 |[],v,_=>by simp
 |x::l,v,h=>by
  simp only[r6] at h
  split at h
  ·cases h
  ·rename_i e
   cases hq:r6 l v with
   |none=>have:=Cs hq;simp[e,this]
   |some j=>rw[hq] at h;cases h
theorem MZ {l:List Int} {v:Int} (h:∀(j:Nat),j<k→l[j]?≠some v) (hk:l[k]?=some v):r6 l v=some k:=by
 induction l generalizing k with
 |nil=>simp at hk
 |cons x l ih=>
  simp only[r6];cases k with
  |zero=>simp only[List.getElem?_cons_zero,Option.some.injEq] at hk;rw[if_pos hk.symm]
  |succ k=>rw[List.getElem?_cons_succ] at hk;rw[if_neg (fun e=>h 0 (by omega) (by rw[e];rfl)),ih (fun j hj=>by have:=h (j+1) (by omega);rwa [List.getElem?_cons_succ] at this) hk];rfl
theorem QS {l:List Int} {v:Int} (h:∀(j:Nat),j<l.length→l[j]?≠some v):r6 l v=none:=by
 cases hq:r6 l v with
 |none=>rfl
 |some i=>have:=vD hq;exact absurd this (h i (List.getElem?_eq_some_iff.1 this).1)
def Yo (o:Option Nat):Int:=match o with|some i=>i|none => -1
theorem M0 (l:List Int) (v:Int) (s:Value) (w:World) (hs:fA w s l):Calls prog 214 #[s,.int .i64 v] w fun e w'=>e=.returned (.int .i64 (Yo (r6 l v)))∧w=w':=by
 obtain ⟨p,c,rfl,h1,h2,h3⟩:=hs;have HA:=aa h3;obtain ⟨N,hN⟩:=aG l.length;rw[hN] at h1 ⊢;have hlc:=fG (n:=N) h2;have HN:=aa hN;clear h1 h2 h3 hN;go_enter func214,ntmps214;go_wp2_with fail;go_loop [8,5] (fun i _=>∃k:Nat,k≤N∧i=.int .i64 k∧∀(j:Nat),j<k→l[j]?≠some v) (fun i _=>N-(intOf i).toNat)
 case atStart=>exact ⟨0,dO,rfl,fun j hj=>by omega⟩
 case round=>
  obtain ⟨k,hk,rfl,hall⟩:=hrel;have ed:=aa hall;clear hall;by_cases hlt:k<N
  case neg=>
   obtain rfl:k=N:=by omega
   have HF:=aa (show r6 l v=none from QS (fun j hj=>ed j (by rw[← HN.o];exact hj)));go_wp2_with fail;go_ret;exact ⟨kH (by rw[HF.o];rfl),rfl⟩
  have fN:(k:Int)<(N:Int):=by omega
  obtain ⟨x,hx⟩:=fx (l:=l) (k:=k) (by rw[HN.o];omega);obtain ⟨_,g,o,rfl,x1⟩:=HA.o k x hx;have HX:=aa hx;clear hx;by_cases he:v=x
  ·have hb:(v==x)=true:=by simpa using he
   have HF:=aa (show r6 l v=some k from MZ ed (by rw[HX.o,he]));clear he;go_wp2_with fail;go_ret;exact ⟨kH (by rw[HF.o];rfl),rfl⟩
  ·have hb:(v==x)=false:=by simpa using he
   have HE:=aa he;clear he;go_wp2_with fail;go_round
   case rel=>
    refine ⟨k+1,by omega,by go_num,fun j hj=>?_⟩;by_cases e:j=k
    ·subst e;rw[HX.o];intro e;injection e with e;exact HE e.symm
    ·exact ed j (by omega)
   case measure=>simp[intOf];omega
def lr:Int:=9223372036854775807
def LW (t u:ag):Prop:=bE u 0=true∧∃pre,dS t=pre++dS u∧(pre=[]∨(dS u≠[]∧bE u 2=true))
theorem JT (h:bE u 2=true):bE u 0=true:=by
 cases u with
 |mk ks vs kids=>simp only[bE,Bool.and_eq_true,decide_eq_true_eq] at h ⊢;exact ⟨⟨by omega,h.1.2⟩,h.2⟩
theorem UW (u:ag):∀d,cC u d≠0→bE u 2=true→dS u≠[]:=by
 induction u using ag.ind with
 |h ks vs kids ih=>
  intro d hd hs;simp only[bE,Bool.and_eq_true,decide_eq_true_eq] at hs;cases kids with
  |nil=>simp only[List.length_nil,if_true,decide_eq_true_eq] at hs;unfold dS;simp only[aA,bP,List.length_nil,if_true,List.append_nil];rw[List.map_fst_zip (by omega)];intro e;rw[e] at hs;simp at hs
  |cons k0 rest=>
   obtain ⟨⟨h1,h2⟩,h3⟩:=hs;rw[if_neg (by simp)] at h3;simp only[Bool.and_eq_true] at h3;have h4:=(eT _ _).1 h3.2 0 k0 rfl;simp only[cC,lg] at hd
   split at hd
   ·exact absurd rfl hd
   ·split at hd
    ·split at hd
     ·exact absurd rfl hd
     ·rename_i hne
      have:=ih k0 (by simp) (d-1) hne h4.1;unfold dS at this ⊢;simp only[aA,bP,List.map_append];intro e;simp only[List.append_eq_nil_iff] at e;exact this e.2.1
    ·exact absurd rfl hd
theorem QT (hr:jy (aA t)=true) (hb:FQ (aA t)) (h:LW t u):lr∈dS t↔lr∈dS u:=by
 obtain ⟨_,pre,hk,hp⟩:=h;constructor
 ·intro hm
  rw[hk,List.mem_append] at hm;rcases hm with hm|hm
  ·rcases hp with rfl|⟨hp,_⟩
   ·simp at hm
   ·exfalso
    obtain ⟨i,hi⟩:=List.mem_iff_getElem?.1 hm;have UX:=(List.getElem?_eq_some_iff.1 hi).1;have hlen:(dS t).length=(aA t).length:=by unfold dS;rw[List.length_map]
    have hul:0<(dS u).length:=List.length_pos_iff.2 hp;have hlt:i+1<(dS t).length:=by rw[hk,List.length_append];omega
    have h1:(dS t)[i]?=some lr:=by rw[hk,List.getElem?_append_left UX];exact hi
    obtain ⟨x,hx⟩:∃x,(aA t)[i]?=some x:=⟨_,List.getElem?_eq_getElem (by omega)⟩
    obtain ⟨y,hy⟩:∃y,(aA t)[i+1]?=some y:=⟨_,List.getElem?_eq_getElem (by omega)⟩
    have h2:=(rA _).1 hr i x y hx hy;have h3:x.1=lr:=by unfold dS at h1;rw[List.getElem?_map,hx] at h1;injection h1
    have h4:=(hb y (List.mem_of_getElem? hy)).1.2;rw[h3] at h2;unfold lr at h2;omega
  ·exact hm
 ·intro hm;rw[hk,List.mem_append];exact .inr hm
def yx (t:ag):Bool:=jN t&&decide (lr∈dS t)
def acy (t:ag) (w wr:World) (k:Nat):Prop:=
 ∃(u:ag) (a b c:Value),LW t u∧(∃d,0≤d∧cC u d≠0)∧SizeOf.sizeOf u≤k∧gN w.heap.size a b c wr∧bn w u a b c∧Bw w wr∧(∀j,wr.frozen? ⟨w.heap.size,j,none⟩=false)
theorem F5 {d:Int} (hd:0≤d) (h:cC (.mk ks vs kids) d≠0) (hu:u∈kids):∃e,0≤e∧cC u e≠0:=by
 simp only[cC] at h
 split at h
 ·exact absurd rfl h
 ·rename_i h0
  cases kids with
  |nil=>simp at hu
  |cons t ts=>
   simp only[lg,nR] at h
   split at h
   ·rename_i hall
    split at h
    ·exact absurd rfl h
    ·rename_i hne
     refine ⟨d-1,by omega,?_⟩;rw[List.mem_cons] at hu;rcases hu with rfl|hu
     ·exact hne
     ·rw[of_decide_eq_true (List.all_eq_true.1 hall u hu)];exact hne
   ·exact absurd rfl h
theorem M7 {d:Int} (h:LW t (.mk ks vs kids)) (hd:0≤d) (hdd:cC (.mk ks vs kids) d≠0) (hu:kids[kids.length-1]?=some u) (hk:kids.length≠0):LW t u:=by
 obtain ⟨hs,pre,hp,UL⟩:=h;simp only[bE,Bool.and_eq_true,decide_eq_true_eq] at hs;rw[if_neg hk] at hs;simp only[Bool.and_eq_true,decide_eq_true_eq] at hs;have hsu:=((eT _ _).1 hs.2.2 _ u hu).1;have hum:=List.mem_of_getElem? hu;obtain ⟨e,he,hde⟩:=F5 hd hdd hum;refine ⟨JT hsu,pre++uh (kids.take (kids.length-1)),?_,.inr ⟨UW u e hde hsu,hsu⟩⟩;rw[hp,List.append_assoc];congr 1;have h1:kids=kids.take (kids.length-1)++[u]:=by obtain ⟨h2,h3⟩:=List.getElem?_eq_some_iff.1 hu;have:=List.take_succ_eq_append_getElem h2;rw[h3,show kids.length-1+1=kids.length by omega,List.take_length] at this;exact this
 unfold dS uh;simp only[aA];rw[if_neg hk,List.nil_append,← List.map_append];congr 1
 conv=>lhs;rw[h1]
 rw[bW,bW,List.map_append,List.flatten_append];simp
theorem QU (hu:u∈kids):SizeOf.sizeOf u<SizeOf.sizeOf (ag.mk ks vs kids):=by have:=List.sizeOf_lt_of_mem hu;simp;omega
theorem UY {x' y' z':Value} (h0:w.cell? ⟨g,0,none⟩=some x) (h1:w.cell? ⟨g,1,none⟩=some y) (h2:w.cell? ⟨g,2,none⟩=some z):gN g x' y' z' (((w.setCell ⟨g,0,none⟩ x').setCell ⟨g,1,none⟩ y').setCell ⟨g,2,none⟩ z'):=by
 refine ⟨?_,?_,?_⟩
 ·rw[World.cell?_setCell_other _ _ _ _ (by simp),World.cell?_setCell_other _ _ _ _ (by simp),World.cell?_setCell_same' _ _ _ (by rw[h0];rfl)]
 ·rw[World.cell?_setCell_other _ _ _ _ (by simp),World.cell?_setCell_same' _ _ _ (by rw[World.cell?_setCell_other _ _ _ _ (by simp),h1];rfl)]
 ·rw[World.cell?_setCell_same' _ _ _ (by rw[World.cell?_setCell_other _ _ _ _ (by simp),World.cell?_setCell_other _ _ _ _ (by simp),h2];rfl)]
def UZ (t:ag) (w:World) (e:Ending) (w':World):Prop:=∃v:Int,e=.returned (.tuple #[.int .i64 v,.bool (yx t)])∧Bw w w'
theorem U0 (t:ag) (x y z:Value) (Q:Int) (HQ:Hid (Q=lr)) (w:World) (hn:bn w t x y z):Calls prog 187 #[.agg #[x,y,z],.int .i64 Q] w (UZ t w):=by
 obtain ⟨pu,nu,cu,pv,nv,cv,pw,nw,cw,rfl,rfl,rfl⟩:=aZ hn;have HN:=aa hn;have QG:=aa (nS _ hn);clear hn;have kB:=aa (show Bw w (w.alloc (.cells #[.slice pu nu cu,.slice pv nv cv,.slice pw nw cw] 73)) from ar);go_enter func187,ntmps187;go_wp2_with fail;refine (Eb t _ _ _ _ (HN.keep (af kB))).mono ?_;rintro e w1 ⟨rfl,hb⟩;have aY:=bh kB hb;have aU:=aa (show gN w.heap.size (.slice pu nu cu) (.slice pv nv cv) (.slice pw nw cw) w1 from gN.below ⟨by simp,by simp,by simp⟩ hb);have JU:=aa (show ∀j,w1.frozen? ⟨w.heap.size,j,none⟩=false from fun j=>(hb.frozen (p:=⟨w.heap.size,j,none⟩) (by simp)).trans (by simp));clear hb;cases hm:jN t with
 |false=>have HF:=aa (show yx t=false by unfold yx;rw[hm];rfl);clear hm;go_wp2_with fail;go_ret2;exact ⟨0,by rw[HF.o];rfl,aY⟩
 |true=>
  have HM:=aa (show cC t 40≠0∧bE t 0=true∧jy (aA t)=true by unfold jN at hm;simpa [and_assoc] using hm);have HF:=aa (show yx t=decide (lr∈dS t) by unfold yx;rw[hm];rfl);clear hm;go_wp2_with fail;go_loopg [6] (SizeOf.sizeOf t) (fun k _ wr=>acy t w wr k)
  case atStart=>exact ⟨t,_,_,_,⟨HM.2.1,[],rfl,.inl rfl⟩,⟨40,by omega,HM.1⟩,aT,aU,HN,aY,JU⟩
  case round=>
   obtain ⟨u,a,b,c,hat,hdd,hsz,fI,hnu,hb,rB⟩:=hrel;have QV:=aa hat;have M8:=aa hdd;have HNU:=aa hnu;have HB:=aa hb;have U1:=aa rB;have mN:=aa hsz;have HX:=aa fI;clear hat hdd hb rB hsz fI;obtain ⟨ks,vs,kids⟩:=u;obtain ⟨⟨pa,ca,rfl,a1,a2,ha⟩,⟨pb,cb,rfl,b1,b2,MP⟩,⟨pc,cc,rfl,c1,c2,hk⟩⟩:=bA.1 hnu;simp only[ag.keys,ag.vals,ag.kids] at a1 b1 c1 ha MP hk HX;have HK:=aa hk;have HA:=aa ha;have HV:=aa MP;obtain ⟨K,hK⟩:=aG ks.length;obtain ⟨M,hM⟩:=aG vs.length;obtain ⟨N,hN⟩:=aG kids.length;rw[hK] at a1 HX;rw[hM] at b1 HX;rw[hN] at c1 HX;have hla:=fG (n:=K) a2;have hlb:=fG (n:=M) b2;have hlc:=fG (n:=N) c2;have vn:=aa hK;have pY:=aa hM;have ll:=aa hN;have HIA:=aa (show fA wr (.slice pa K ca) ks from ⟨pa,ca,by rw[hK],by rw[hK];exact a1,a2,HA.keep (af HB)⟩);have HSD:=aa (show bE (.mk ks vs kids) 0=true from QV.1);have WV:=HSD.o;simp only[bE,Bool.and_eq_true,decide_eq_true_eq] at WV;rw[hK,hM,hN] at WV;obtain ⟨x0,x1,x2⟩:=HX.o;have hlx:=World.block_lt_of_cell? _ _ x0;simp only at hlx;clear hnu hk ha MP a1 a2 b1 b2 c1 c2 hK hM hN;rcases Nat.eq_zero_or_pos N with hz|hz
   ·have hmv:M=K:=by
     have:=WV.2;rw[if_pos hz] at this
     simpa using this
    have hg0:decide (0<N)=false:=decide_eq_false (by omega);have hg1:¬(0:Int)<(N:Int):=by omega
    have JV:=aa (show dS (.mk ks vs kids)=ks by
     have h0:kids=[]:=List.eq_nil_of_length_eq_zero (by rw[ll.o];exact hz);subst h0;unfold dS;simp only[aA,bP,List.length_nil,if_true,List.append_nil];exact List.map_fst_zip (by rw[vn.o,pY.o];omega))
    have HMX:=aa (show yx t=decide (lr∈ks) by
     rw[HF.o,← JV.o,decide_eq_decide];exact QT HM.2.2 QG QV)
    clear WV;go_wp2_with fail
    with_reducible refine (M0 ks Q (.slice pa K ca) wr HIA.o).mono ?_
    rintro e w2 ⟨rfl,rfl⟩;cases hi:r6 ks Q with
    |none=>have HR:=aa (show yx t=false by rw[HMX.o,decide_eq_false_iff_not,← HQ.o];exact Cs hi);clear hi;simp only[Yo];go_wp2_with fail;go_ret2;exact ⟨0,by rw[HR.o];rfl,HB⟩
    |some i=>
     have fN:=vD hi;have HR:=aa (show yx t=true by rw[HMX.o,decide_eq_true_eq,← HQ.o];exact List.mem_of_getElem? fN);have hik:=(List.getElem?_eq_some_iff.1 fN).1;rw[vn.o] at hik;have him:(i:Int)<(M:Int):=by omega
     have iM:¬(i:Int)<0:=(by omega);obtain ⟨v,hv⟩:=fx (l:=vs) (k:=i) (by rw[pY.o];omega);obtain ⟨_,gb,ob,rfl,hvc⟩:=HV.o i v hv;have rv:=ae HB hvc;clear hi fN hv hvc hik hmv;simp only[Yo];go_wp2_with fail;go_ret2;exact ⟨v,by rw[HR.o];rfl,HB⟩
   ·have hnz:¬N=0:=by omega
    have QW:=WV.2;rw[if_neg hnz] at QW;simp only[Bool.and_eq_true,decide_eq_true_eq] at QW;have hNK:N=K:=QW.1.2.1;have hN2:2≤K:=QW.1.2.2;have hg0:decide (0<N)=true:=decide_eq_true hz;have hg1:(0:Int)<(N:Int):=by omega
    obtain ⟨m,hm⟩:∃m,N=m+1:=⟨N-1,by omega⟩
    obtain ⟨u,hu⟩:=fx (l:=kids) (k:=m) (by rw[ll.o];omega);obtain ⟨y,hy⟩:=fx (l:=ks) (k:=m) (by rw[vn.o];omega);obtain ⟨g,o,a,b,d,rfl,e1,e2,e3,e4⟩:=HK.o m u hu;obtain ⟨pu',nu',cu',pv',nv',cv',pw',nw',cw',rfl,rfl,rfl⟩:=aZ e4;obtain ⟨BL,ga,oa,rfl,QM⟩:=HA.o m y hy;have r1:=ae HB e1;have r2:=ae HB e2;have r3:=ae HB e3;have ry:=ae HB QM;have U2:=World.block_lt_of_cell? _ _ e1;simp only at U2;have HUM:=aa (List.mem_of_getElem? hu);have QX:=aa (M7 QV M8.choose_spec.1 M8.choose_spec.2 (show kids[kids.length-1]?=some u by rw[ll.o,hm];exact hu) (by rw[ll.o];exact hnz));have HDK:=aa (F5 M8.choose_spec.1 M8.choose_spec.2 HUM);have aiz:=aa e4;have hw1:IntKind.i64.wrap ((N:Int)-1)=(m:Int):=by rw[IntKind.wrap_i64];omega
    have Yp:(N:Int)-1=(m:Int):=(by omega);have UC:decide (0<m)=true:=decide_eq_true (by omega);have yM:(0:Int)<(m:Int):=by omega
    have jJ:(m:Int)<(K:Int):=(by omega);have hmn:(m:Int)<(N:Int):=by omega
    have yN:=aa Yp;have rZ:=aa hm;have aqh:=aa hNK;have hyq:decide (Q<y)=false:=by rw[decide_eq_false_iff_not,HQ.o];have:=BL.2;unfold lr;omega
    have F6:=fun j=>U1 j;have f0:=F6 0;have f1:=F6 1;have f2:=F6 2;clear hu hy e1 e2 e3 e4 QM BL WV QW hnz hm F6 Yp hNK hz;go_wp2_with fail;go_loopw [6] (fun i w'=>i=.int .i64 m∧wr=w') (fun _ _=>0)
    case atStart=>exact ⟨rfl,rfl⟩
    case round=>
     obtain ⟨rfl,rfl⟩:=hrel;go_wp2_with fail;go_roundg (SizeOf.sizeOf u)
     case measure=>have h1:=QU (ks:=ks) (vs:=vs) HUM.o;have h2:=mN.o;omega
     case rel=>refine ⟨u,_,_,_,QX,HDK,aT,UY x0 x1 x2,aiz,((HB.setCell aT _).setCell aT _).setCell aT _,fun j=>?_⟩;rw[World.frozen?_setCell,World.frozen?_setCell,World.frozen?_setCell];exact U1 j
def sD (t:ag):Int:=t.keys.headD 0
def iN (p:List ay):ag:=.mk (p.map Prod.fst) (p.map Prod.snd) []
def jB (p:List ag):ag:=.mk (p.map sD) [] p
structure Cy (row:List ag) (l:List ay) (d:Nat):Prop where
 some:1≤row.length
 less:row.length*2 ^ d≤2 ^ 21
 cat:bP row=l
 keys:∀t∈row,1≤t.keys.length
 deep:∀t∈row,∀k:Int,d≤k→k≤40→cC t k=d
 low:∀t∈row,bE t 0=true
 two:2≤row.length→∀t∈row,bE t 2=true
 one:1≤d
theorem zI (p:List ay):aA (iN p)=p:=by
 unfold iN;simp only[aA,bP,List.length_nil,if_true,List.append_nil]
 induction p with
 |nil=>rfl
 |cons a p ih=>simp only[List.map_cons,List.zip_cons_cons,ih]
theorem J1 {p:List ag} (h:1≤p.length):aA (jB p)=bP p:=by unfold jB;simp only[aA];rw[if_neg (by omega),List.nil_append]
def Grown (l:List ay) (t:ag):Prop:=aA t=l∧cC t 40≠0∧bE t 0=true
theorem Nr {row:List ag} {l:List ay} {d:Nat} (h:Cy row l d) (ht:row=[t]):Grown l t:=by
 subst ht;have hd:d≤21:=by have h3:=h.less;simp only[List.length_cons,List.length_nil,Nat.zero_add,Nat.one_mul] at h3;exact (Nat.pow_le_pow_iff_right (by omega)).1 h3
 refine ⟨?_,?_,h.low t (by simp)⟩
 ·have:=h.cat;simpa [bP] using this
 ·rw[h.deep t (by simp) 40 (by omega) (by omega)];have:=h.one;omega
theorem Grown.may {l:List ay} (h:Grown l t) (hr:jy l=true):jN t=true:=by unfold jN;rw[h.1,hr,decide_eq_true h.2.1,h.2.2];rfl
theorem bD {K:Act→World→Prop} {E:Prop}
 (hg:o.guard=none) (s x:Operand) (t:TypeId) (hop:o.op=Op.call {callee:=Callee.builtin Builtin.append,args := #[s,x],argTypes := #[t,t]})
 {vs vx v':Value} (hs:a.eval s=vs) (hx:a.eval x=vx) (hr:(Builtin.append_ #[t,t] o.type #[vs,vx]).run P w=.ok v' w') (hK:K (a.put o.dst v') w') :
 if Region.wanted o (yielded ops a.tmps)=true then Oper.wp P o a w K Q else E:=by
 have hw:Region.wanted o (yielded ops a.tmps)=true:=by simp[Region.wanted,hg]
 rw[if_pos hw];unfold Oper.wp;simp[execOp,hop,resolve,invoke,builtin,hs,hx,hr,Result.andThen];exact hK
structure Sg {α:Type} (l:List α) (L:List (List α)):Prop where
 cat:L.flatten=l
 many:1≤L.length∧L.length≤l.length∧(2≤l.length→2*L.length≤l.length)
 some:∀p∈L,1≤p.length∧p.length≤4∧(2≤l.length→2≤p.length)
theorem NY {l:List ay} {L:List (List ay)} (h1:1≤l.length) (h2:l.length≤1000000) (hc:Sg l L):Cy (L.map iN) l 1:=by
 obtain ⟨b1,b2,b4⟩:=hc.many;have hl:(L.map iN).length=L.length:=List.length_map _;refine ⟨by omega,by omega,?_,fun t ht=>?_,fun t ht k hk hk2=>?_,fun t ht=>?_,fun hr t ht=>?_,aT⟩
 ·rw[bW,List.map_map,show (aA∘iN)=id by funext p;exact zI p,List.map_id];exact hc.cat
 all_goals
  rw[List.mem_map] at ht;obtain ⟨p,hp,rfl⟩:=ht;obtain ⟨c1,c2,c3⟩:=hc.some p hp
 ·simpa [iN,ag.keys] using c1
 ·unfold iN;simp only[cC,lg];rw[if_neg (by omega)];rfl
 ·unfold iN;simp only[bE,List.length_map,List.length_nil,if_true];simp;omega
 ·unfold iN;simp only[bE,List.length_map,List.length_nil,if_true]
  have:2≤l.length:=by rw[hl] at hr;omega
  have:=c3 this;simp;omega
theorem CV {row:List ag} {L:List (List ag)} {l:List ay} {d:Nat} (h:Cy row l d) (h2:2≤row.length) (hc:Sg row L):Cy (L.map jB) l (d+1):=by
 obtain ⟨b1,b2,b4⟩:=hc.many;have hl:(L.map jB).length=L.length:=List.length_map _;have hd:d≤21:=by have h3:=h.less;have h4:=Nat.le_trans (Nat.mul_le_mul h.some (Nat.le_refl (2 ^ d))) h3;rw[Nat.one_mul] at h4;exact (Nat.pow_le_pow_iff_right (by omega)).1 h4
 have tB:∀p∈L,∀t∈p,t∈row:=fun p hp t ht=>by rw[← hc.cat,List.mem_flatten];exact ⟨p,hp,ht⟩
 refine ⟨by omega,?_,?_,fun t ht=>?_,fun t ht k hk hk2=>?_,fun t ht=>?_,fun hr t ht=>?_,by omega⟩
 ·rw[hl,Nat.pow_succ]
  have:=h.less;have h5:2*L.length*2 ^ d≤row.length*2 ^ d:=Nat.mul_le_mul (b4 h2) aT;rw[show L.length*(2 ^ d*2)=2*L.length*2 ^ d by rw[Nat.mul_comm (2 ^ d) 2,← Nat.mul_assoc,Nat.mul_comm L.length 2]];omega
 ·rw[bW,List.map_map]
  have e:L.map (aA∘jB)=L.map bP:=List.map_congr_left fun p hp=>J1 (hc.some p hp).1;rw[e];have e2:∀q:List (List ag),(q.map bP).flatten=bP q.flatten:=fun q=>by
   induction q with
   |nil=>simp[bP]
   |cons a q ih=>rw[List.map_cons,List.flatten_cons,List.flatten_cons,ih,bW a,bW q.flatten,bW,List.map_append,List.flatten_append]
  rw[e2,hc.cat];exact h.cat
 all_goals
  rw[List.mem_map] at ht;obtain ⟨p,hp,rfl⟩:=ht;obtain ⟨c1,c2,c3⟩:=hc.some p hp;have c4:=c3 h2;have hm:=tB p hp
 ·simpa [jB,ag.keys] using c1
 ·have hdp:∀t∈p,cC t (k-1)=d:=fun t ht=>h.deep t (hm t ht) (k-1) (by omega) (by omega)
  unfold jB;cases p with
  |nil=>simp at c1
  |cons a p=>have ha:=hdp a (by simp);simp only[cC,lg];rw[if_neg (by omega),ha,nR,if_pos (List.all_eq_true.2 fun u hu=>decide_eq_true (hdp u (by simp[hu]))),if_neg (by have:=h.one;omega)];push_cast;rfl
 all_goals
  have hs:bE (jB p) 2=true:=by
   unfold jB;simp only[bE,List.length_map,List.length_nil,Bool.and_eq_true,decide_eq_true_eq];refine ⟨by omega,?_⟩;rw[if_neg (by omega),Bool.and_eq_true,decide_eq_true_eq];refine ⟨(by simp;omega),(eT _ _).2 fun j t hj=>⟨h.two h2 t (hm t (List.mem_of_getElem? hj)),?_⟩⟩;rw[List.getElem?_map,hj,Option.map_some];have:=h.keys t (hm t (List.mem_of_getElem? hj));unfold sD;cases hk:t.keys with
   |nil=>rw[hk] at this;simp at this
   |cons x xs=>rfl
 ·unfold jB at hs ⊢
  simp only[bE,Bool.and_eq_true,decide_eq_true_eq] at hs ⊢;exact ⟨by omega,hs.2⟩
 ·exact hs
structure JB where
 act:Int
 Fk:Int
 dest:Int
 block:Int
 n:Int
 text:ByteArray
def JB.cells (o:JB):List Value:=[.int .i64 o.act,.int .i64 o.Fk,.int .i64 o.dest,.int .i64 o.block,.int .i64 o.n,.string o.text]
def JB.zero:JB:=⟨0,0,0,0,0,⟨#[]⟩⟩
def JB.agg (o:JB):Value:=.agg #[.int .i64 o.act,.int .i64 o.Fk,.int .i64 o.dest,.int .i64 o.block,.int .i64 o.n,.string o.text]
theorem qM:(prog.info? 52).map (fun i=>(i.zero,i.size,i.bytes))=some (some (.agg #[.int .i64 0,.int .i64 0,.int .i64 0,.bool false]),4,32):=by kernel_rfl
theorem kF (p:Option Addr) (n c:Nat) (xs:List Value) (w:World) (hs:iK w p n 4 xs) (hn:n≤1000000000) :
 Calls prog 78 #[.slice p n c] w fun e w'=>∃v',e=.returned v'∧w'.ownsRow w.heap.size 52 4 v' n xs∧Bw w w':=by
 obtain ⟨hl,hnil,h1,hx⟩:=hs;cases p with
 |none=>have hq:∀w:World,(binOp .eql 45 (.slice none 0 c) (.slice none 0 0)).run prog w=.ok (.bool true) w:=fun w=>Lib.run_eql_slice_nil w 45 52 none 0 c 0 0 underlying45;obtain rfl:=hnil rfl;obtain rfl:xs=[]:=List.eq_nil_of_length_eq_zero (by rw[hl,Nat.zero_mul]);clear hnil hx h1 hl hn;go_enter func78,ntmps78;go_wp2_with fail;go_ret;exact ⟨_,rfl,World.ownsRow_nil _ _ _ _,aH⟩
 |some a=>
  have HX:=aa (hx a rfl);have HL:=aa hl;have H1:=aa h1;have HN:=aa hn;clear hnil hx h1 hl hn;have hq:∀w:World,(binOp .eql 45 (.slice (some a) n c) (.slice none 0 0)).run prog w=.ok (.bool false) w:=fun w=>Lib.run_eql_slice_nil w 45 52 (some a) n c 0 0 underlying45;obtain ⟨i0,hi,hz0,hz1,hz2⟩:=info_parts qM;have HB:=aa (((Below.refl w.heap.size w).alloc aT (.cells #[] 52)));go_enter func78,ntmps78;go_wp2_with (at_builtin;refine wpList_append_own _ rfl _ _ 45 rfl w.heap.size 52 i0 (.agg #[.int .i64 0,.int .i64 0,.int .i64 0,.bool false]) 4 32 underlying45 hi hz0 hz1 hz2 rfl (by decide) _ 0 [] rfl (World.ownsRow_made w #[] 0 aT (by unfold maxLen;omega) rfl) a n c xs rfl ?_ ?_ ?_ ?_ ?_ ?_ ?_)
  ·exact HL.o
  ·intro j u hu;exact cell_later HB (HX j u hu)
  ·exact H1.o
  ·have:=HN.o;unfold maxLen;omega
  ·have:=HN.o;omega
  ·simp
  ·intro v' w1 hown hg _
   have HO:=aa hown;have HG:=aa hg;clear hown hg;go_wp2_with fail;go_ret;exact ⟨v',rfl,by simpa using HO.o,HB.grown HG (by simp) (fun k e=>by simp[Value.ownBlock] at e;omega)⟩
end Go.Proofs.YtbigkioechkngaaGreat
