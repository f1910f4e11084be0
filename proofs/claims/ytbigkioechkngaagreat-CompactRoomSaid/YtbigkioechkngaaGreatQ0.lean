/- The proof, part 1. -/
import Derived.Lib.Hide
import Derived.Below
import Derived.WalkKit
import Derived.WalkSpells
import Derived.WalkLawsBesides
import Derived.IntWalk
import Derived.Deep.QuietTactic
import Derived.BigQuiet
import Derived.Sort.Grow
import Derived.Deep.OwnRows
import Derived.Maps.AppendAt
import Derived.RangeFuncBox
import Derived.Lib.AppendZeros
import Derived.Laws.CopyOwn
import Derived.Lib.AppendZerosOnto
import Derived.Lib.Overlaps
import Derived.Laws.Externs
import Derived.Test.YtbigkioechkngaaGreatProg
import Derived.Test.YtbigkioechkngaaGreatChecked
import Derived.Laws.AppendOwnNone
import Derived.Deep.RegionHeld3
import Derived.Deep.AppendLies
import Derived.Deep.Cut
import Derived.Deep.RegionLaw
set_option maxRecDepth 100000
set_option maxHeartbeats 8000000
namespace Go.RowKit
theorem Hid.o {p:Prop} (h:Hid p):p:=h
end Go.RowKit
namespace Go.Proofs.YtbigkioechkngaaGreat
open Go.RowKit
theorem aa {p:Prop} (h:p):Hid p:=h
theorem aG {α:Sort _} (a:α):∃b,a=b:=⟨_,rfl⟩
theorem aT {a:Nat}:a≤a:=Nat.le_refl _
theorem dQ {a:Nat}:0≤a:=Nat.zero_le _
theorem aH {B:Nat} {w:World}:Below B w w:=Below.refl _ _
theorem aq {w:World} {o:Obj}:Below w.heap.size w (w.alloc o):=(Below.refl _ _).alloc (Nat.le_refl _) _
abbrev Bw (w w':World):Prop:=Below w.heap.size w w'
theorem aV {w w1 w2:World} (h:Hid (Below w.heap.size w w1)) (k:Below w1.heap.size w1 w2):Hid (Below w.heap.size w w2):=(Hid.out h).trans (k.mono (Hid.out h).size)
abbrev uu:Value:=undef
theorem fK {n c:Nat} (h2:c≤maxLen) (h1:n≤c:=by omega):(n:Int)≤9223372036854775807:=by unfold maxLen at h2;omega
theorem fy {α:Type _} {l:List α} {k:Nat} (h:k<l.length):∃s,l[k]?=some s:=⟨_,List.getElem?_eq_getElem h⟩
end Go.Proofs.YtbigkioechkngaaGreat
namespace Go.Proofs.YtbigkioechkngaaGreat
open Go.RowKit Go.Sort
theorem ay {B:Nat} {a w:World} (h:Below B a w) (n:Nat):Below B a (w.drewN n):=⟨h.os,h.tape,h.output,h.size,h.block⟩
theorem ak {w w1 w2:World} (h:Bw w w1) (k:Bw w1 w2):Bw w w2:=h.trans (k.mono h.size)
end Go.Proofs.YtbigkioechkngaaGreat
namespace Go.Proofs.YtbigkioechkngaaGreat
open Go.RowKit
theorem bC {w:World} {B B':Nat} {e:TypeId} {size n:Nat} {v:Value} {xs:List Value} (h:B≤B') (ho:w.ownsRow B' e size v n xs):w.ownsRow B e size v n xs:=by
 refine ⟨ho.1,?_⟩;rcases ho.2 with h1|⟨g,cap,cur,h1,h2,h3⟩
 ·exact .inl h1
 ·exact .inr ⟨g,cap,cur,h1,Nat.le_trans h h2,h3⟩
theorem jS (g j:Nat):(⟨g,0,none⟩:Addr).add j=⟨g,j,none⟩:=by unfold Addr.add;split <;> simp_all
theorem nI (g o j:Nat):(⟨g,o,none⟩:Addr).add j=⟨g,o+j,none⟩:=by unfold Addr.add;split <;> simp_all
theorem bJ {w:World} {B g cap n:Nat} {e:TypeId} {size:Nat} {xs:List Value} (h:w.ownsRow B e size (.slice (some ⟨g,0,none⟩) n cap) n xs) (j:Nat) (hj:j<xs.length):w.cell? ⟨g,j,none⟩=some xs[j]:=by
 have:=h.cells (g:=g) rfl j _ (List.getElem?_eq_getElem hj)
 rwa [jS] at this
theorem J6 {w:World} {B g cap m n:Nat} {e:TypeId} {size:Nat} {xs:List Value} (h:w.ownsRow B e size (.slice (some ⟨g,0,none⟩) m cap) n xs):m=n∧n≤cap∧B≤g∧g<w.heap.size:=by
 rcases h.2 with ⟨h1,_⟩|⟨g',cap',cur,h1,h2,h3,h4,_⟩
 ·cases h1
 ·injection h1 with a b c
  injection a with a;injection a with a _;subst a;subst b;subst c;exact ⟨rfl,h4,h2,(Array.getElem?_eq_some_iff.1 h3).1⟩
theorem l5 {w wr w1:World} {B:Nat} {o:Obj} {v:Value} {e:TypeId} {size n:Nat} {xs:List Value} (hb:Below B w wr) (hs:B≤wr.heap.size) (hown:wr.ownsRow B e size v n xs) (hg:(wr.alloc o).grownBy w1 v.ownBlock):Below B w w1:=
 (hb.alloc hs o).grown hg (by simp;omega) (fun k e=>(hown.lt k e).1)
def l6 (l:List UInt8):List Value:=l.map fun b=>.int .u8 (b.toNat:Nat)
theorem Cf (l:List UInt8):(l6 l).length=l.length:=by simp[l6]
theorem Gb (l:List UInt8) (b:UInt8):l6 l++[.int .u8 (b.toNat:Nat)]=l6 (l++[b]):=by simp[l6]
theorem Eo {P:Program} {w:World} {B g cap:Nat} {e src dst:TypeId} {l:List UInt8} (hs:P.underlying src=some (.slice e)) (he:P.underlying e=some (.int .u8)) (hd:P.underlying dst=some .string)
 (h:w.ownsRow B e 1 (.slice (some ⟨g,0,none⟩) l.length cap) l.length (l6 l)):(convert src dst (.slice (some ⟨g,0,none⟩) l.length cap)).run P w=.ok (.string ⟨l.toArray⟩) w:=by
 refine run_convert_bytes_back w src dst e ⟨g,0,none⟩ cap l hs he hd (fun j hj=>?_);rw[jS,bJ h j (by rw[Cf];exact hj)];simp[l6]
def iN (w:World) (p:Option Addr) (n k:Nat) (xs:List Value):Prop:=
 xs.length=n*k∧(p=none→n=0)∧(∀u∈xs,u.oneCell'=true)∧∀a,p=some a→∀j u,xs[j]?=some u→w.cell? (a.add j)=some u
theorem iN.stays {w w':World} {p:Option Addr} {n k:Nat} {xs:List Value} (h:iN w p n k xs) (hb:Bw w w'):iN w' p n k xs:=
 ⟨h.1,h.2.1,h.2.2.1,fun a ha j u hu=>(hb.cell (World.block_lt_of_cell? w _ (h.2.2.2 a ha j u hu))).trans (h.2.2.2 a ha j u hu)⟩
theorem bp {w:World} {B:Nat} {e:TypeId} {k n g cap:Nat} {xs:List Value} (h:w.ownsRow B e k (.slice (some ⟨g,0,none⟩) n cap) n xs) :
 ∃cur:Array Value,w.heap[g]?=some (.cells cur e (0,0))∧B≤g∧n≤cap∧cap≤maxLen∧cur.size=cap*k∧cur.toList.take (n*k)=xs:=by
 rcases h.2 with ⟨h1,_⟩|⟨g',cap',cur,h1,h2,h3,h4,h5,h6,h7⟩
 ·cases h1
 ·injection h1 with a b c
  injection a with a;injection a with a _;subst a;subst c;exact ⟨cur,h3,h2,h4,h5,h6,h7⟩
theorem l9 {w:World} {B:Nat} {e:TypeId} {k n g cap:Nat} {xs:List Value} (h:w.ownsRow B e k (.slice (some ⟨g,0,none⟩) n cap) n xs) (j:Nat) (u:Value) (_hj:j<xs.length) :
 (w.setCell ⟨g,j,none⟩ u).ownsRow B e k (.slice (some ⟨g,0,none⟩) n cap) n (xs.set j u):=by
 obtain ⟨cur,h3,h2,h4,h5,h6,h7⟩:=bp h;refine ⟨by rw[List.length_set];exact h.1,.inr ⟨g,cap,cur.setIfInBounds j u,rfl,h2,?_,h4,h5,by simpa using h6,?_⟩⟩
 ·rw[setCell_eq_setRow w g j cur e (0,0) u h3];exact setRow_heap w g cur _ e _ h3
 ·rw[Array.toList_setIfInBounds,List.take_set,h7]
theorem gC {w:World} {B:Nat} {e:TypeId} {k n g cap:Nat} {xs:List Value} (h:w.ownsRow B e k (.slice (some ⟨g,0,none⟩) n cap) n xs) (j:Nat):w.frozen? ⟨g,j,none⟩=false:=by obtain ⟨cur,h3,_⟩:=bp h;simp[World.frozen?,h3]
theorem aK {w:World} {B:Nat} {e:TypeId} {k n:Nat} {v:Value} {xs:List Value} (h:w.ownsRow B e k v n xs):v=.slice none 0 0∧n=0∧xs=[]∨∃g cap,v=.slice (some ⟨g,0,none⟩) n cap:=by
 rcases h.2 with ⟨h1,h2⟩|⟨g,cap,cur,h1,_⟩
 ·exact .inl ⟨h1,h2,List.eq_nil_of_length_eq_zero (by rw[h.1,h2,Nat.zero_mul])⟩
 ·exact .inr ⟨g,cap,h1⟩
theorem YV {w:World} {B:Nat} {e:TypeId} {k n:Nat} {v:Value} {xs:List Value} (h:w.ownsRow B e k v n xs) (h1:∀u∈xs,u.oneCell'=true):∃p c,v=.slice p n c∧n≤c∧c≤maxLen∧iN w p n k xs:=by
 rcases aK h with ⟨hv,hn,hx⟩|⟨g,cap,hv⟩
 ·subst hn;subst hx
  exact ⟨none,0,hv,aT,dQ,by simp,fun _=>rfl,by simp,by simp⟩
 ·subst hv
  obtain ⟨cur,_,_,h4,h5,_⟩:=bp h;refine ⟨_,cap,rfl,h4,h5,h.1,(fun e=>by cases e),h1,fun a ha j u hu=>?_⟩;cases ha;have hj:j<xs.length:=(List.getElem?_eq_some_iff.1 hu).1;have:=bJ h j hj;rw[jS,this,← hu,List.getElem?_eq_getElem hj]
theorem aS {w w':World} (h:Bw w w') (row:Option Nat):w.grownBy w' row:=⟨h.os,h.tape,h.output,h.size,fun k hk _=>h.block k hk⟩
theorem Cg (w:World) (g j:Nat) (u:Value):w.grownBy (w.setCell ⟨g,j,none⟩ u) (some g):=
 ⟨rfl,rfl,rfl,by simp,fun k _ hk=>Below.heap_setCell _ _ _ k (fun e=>hk (by rw[e]))⟩
theorem iI (w:World) (g:Nat) (c:Array Value):w.grownBy (w.setRow g c) (some g):=
 ⟨rfl,rfl,rfl,by simp[World.setRow],fun k _ hk=>setRow_other w g k c (fun e=>hk (by rw[e]))⟩
theorem aX {A B C:World} {row:Option Nat} (h:A.grownBy B row) (k:B.grownBy C row):A.grownBy C row:=
 ⟨k.os.trans h.os,k.tape.trans h.tape,k.output.trans h.output,Nat.le_trans h.size k.size,fun i hi hne=>(k.block i (Nat.lt_of_lt_of_le hi h.size) hne).trans (h.block i hi hne)⟩
theorem kq (w:World) (row:Option Nat):w.grownBy w row:=⟨rfl,rfl,rfl,aT,fun _ _ _=>rfl⟩
theorem tr {A B:World} {row:Option Nat} (h:A.grownBy B row) (n:Nat):A.grownBy (B.drewN n) row:=⟨h.os,h.tape,h.output,h.size,h.block⟩
theorem fC {w w':World} {row:Option Nat} {B:Nat} (h:w.grownBy w' row) (hB:B≤w.heap.size) (hr:∀k,row=some k→B≤k):Below B w w':=
 ⟨h.os,h.tape,h.output,h.size,fun k hk=>h.block k (Nat.lt_of_lt_of_le hk hB) (fun e=>by have:=hr k e.symm;omega)⟩
section
variable {α:Type}
def nJ (k:Nat) (L:List (List α)):Prop:=∀l∈L,l.length=k
theorem xC {k:Nat}:∀ {L:List (List α)},nJ k L→L.flatten.length=L.length*k
 |[],_=>by simp
 |l::L,h=>by rw[List.flatten_cons,List.length_append,xC (fun x hx=>h x (by simp[hx])),h l (by simp),List.length_cons,Nat.add_mul,Nat.one_mul,Nat.add_comm]
theorem CF {k:Nat}:∀ {L:List (List α)} (i:Nat),nJ k L→L.flatten.take (i*k)=(L.take i).flatten
 |[],i,_=>by simp
 |l::L,0,_=>by simp
 |l::L,i+1,h=>by have hl:=h l (by simp);rw[List.flatten_cons,List.take_succ_cons,List.flatten_cons,← CF i (fun x hx=>h x (by simp[hx])),Nat.add_mul,Nat.one_mul,List.take_append,hl];rw[List.take_of_length_le (by rw[hl];omega),Nat.add_sub_cancel]
theorem CG {k:Nat}:∀ {L:List (List α)} (i:Nat),nJ k L→L.flatten.drop (i*k)=(L.drop i).flatten
 |[],i,_=>by simp
 |l::L,0,_=>by simp
 |l::L,i+1,h=>by have hl:=h l (by simp);rw[List.flatten_cons,List.drop_succ_cons,← CG i (fun x hx=>h x (by simp[hx])),Nat.add_mul,Nat.one_mul,List.drop_append,hl];rw[List.drop_of_length_le (by rw[hl];omega),Nat.add_sub_cancel,List.nil_append]
theorem qw {k:Nat}:∀ {L:List (List α)} {i r:Nat} {l:List α} (u:α),nJ k L→L[i]?=some l→r<k→L.flatten.set (i*k+r) u=(L.set i (l.set r u)).flatten
 |[],i,r,l,u,_,hl,_=>by simp at hl
 |l0::L,0,r,l,u,h,hl,hr=>by simp only[List.getElem?_cons_zero,Option.some.injEq] at hl;subst hl;rw[Nat.zero_mul,Nat.zero_add,List.flatten_cons,List.set_cons_zero,List.flatten_cons,List.set_append_left _ _ (by rw[h l0 (by simp)];exact hr)]
 |l0::L,i+1,r,l,u,h,hl,hr=>by have h0:=h l0 (by simp);rw[List.flatten_cons,List.set_cons_succ,List.flatten_cons,← qw u (fun x hx=>h x (by simp[hx])) (by simpa using hl) hr,List.set_append_right _ _ (by rw[h0,Nat.add_mul];omega),h0];congr 2;rw[Nat.add_mul];omega
end
theorem oT {P:Program} (w:World) (dT sT ty elem:TypeId) (k g o dLen ajl:Nat) (a:Addr) (sLen sCap m:Nat) (cur:Array Value) (t:TypeId) (cs:List Value)
 (hu:P.underlying dT=some (.slice elem)) (hs:(P.info? elem).map (·.size)=some k)
 (hg:w.heap[g]?=some (.cells cur t (0,0))) (hm:Nat.min sLen dLen=m) (hn:cs.length=m*k)
 (jq:∀j v,cs[j]?=some v→w.cell? (a.add j)=some v) (J7:o+cs.length≤cur.size) (h1:∀v∈cs,v.oneCell'=true) :
 (Builtin.copy_ #[dT,sT] ty #[.slice (some ⟨g,o,none⟩) dLen ajl,.slice (some a) sLen sCap]).run P w =
  .ok (goInt m) (w.setRow g (cur.toList.take o++cs++cur.toList.drop (o+cs.length)).toArray):=by
 have hl:=run_loadCells_list (P:=P) w a cs jq;have hst:=run_storeCells_at P g o t cs 0 cur w hg (by simpa using J7) h1;cases hq:P.info? elem with
 |none=>simp[hq] at hs
 |some i=>
  have hi:i.size=k:=by simpa [hq] using hs
  simp[Builtin.copy_,run_underlying hu,Builtin.lenOf,Builtin.firstCells,sizeOf,typeInfo,hq,hi,hm,← hn,hl,hst]
theorem Gc {P:Program} (w:World) (t ty e:TypeId) (z:Value) (g o n c:Nat) (cur:Array Value) (te:TypeId) (ht:P.underlying t=some (.slice e)) (hz:∀w,(zeroValue e).run P w=.ok z w)
 (hg:w.heap[g]?=some (.cells cur te (0,0))) (hn:0<n) (J7:o+n*z.cells.size≤cur.size) (h1:∀u∈(Builtin.zeroCells z.cells n).toList,u.oneCell'=true) :
 (Builtin.clear_ #[t] ty #[.slice (some ⟨g,o,none⟩) n c]).run P w=.ok (.tuple #[]) (w.setRow g (cur.toList.take o++(Builtin.zeroCells z.cells n).toList++cur.toList.drop (o+(Builtin.zeroCells z.cells n).toList.length)).toArray):=by
 have hl:(Builtin.zeroCells z.cells n).toList.length=n*z.cells.size:=by rw[Array.length_toList,size_zeroCells]
 have hst:=run_storeCells_at P g o te (Builtin.zeroCells z.cells n).toList 0 cur w hg (by rw[hl];simpa using J7) h1;obtain ⟨m,rfl⟩:∃m,n=m+1:=⟨n-1,by omega⟩
 simp only[Nat.add_zero] at hst;simp[Builtin.clear_,run_underlying ht,hz,hst]
theorem nX {P:Program} {ops:Array Oper} {o:Oper} {a:Act} {w:World} {K:Act→World→Prop} {Q:Exit→Act→World→Prop} {E:Prop}
 (hg:o.guard=none) (d x:Operand) (dT sT:TypeId) (hop:o.op=Op.call {callee:=Callee.builtin Builtin.append,args := #[d,x],argTypes := #[dT,sT]})
 (v u:Value) (hd:a.eval d=v) (hx:a.eval x=u) {v':Value} {w':World} (hr:(Builtin.append_ #[dT,sT] o.type #[v,u]).run P w=.ok v' w') (hK:K (a.put o.dst v') w') :
 if Region.wanted o (yielded ops a.tmps)=true then Oper.wp P o a w K Q else E:=by
 have hw:Region.wanted o (yielded ops a.tmps)=true:=by simp[Region.wanted,hg]
 rw[if_pos hw];exact Lib.wp_append_run w d x dT sT hop v u hd hx v' w' hr hK
theorem QU:(Tryz.prog.info? 73).map (fun i=>(i.zero,i.size,i.bytes))=some (some (.agg #[.slice none 0 0,.slice none 0 0,.slice none 0 0]),3,72):=by kernel_rfl
end Go.Proofs.YtbigkioechkngaaGreat
namespace Go.Proofs.YtbigkioechkngaaGreat
open Go.RowKit
inductive ag where
 |mk (keys vals:List Int) (kids:List ag)
namespace ag
def keys:ag→List Int | .mk k _ _=>k
def vals:ag→List Int | .mk _ v _=>v
def kids:ag→List ag | .mk _ _ c=>c
theorem ind {P:ag→Prop} (h:∀ks vs kids,(∀t∈kids,P t)→P (.mk ks vs kids)) (t:ag):P t:=
 match t with
 |.mk ks vs kids=>h ks vs kids fun s _hs=>ind (P:=P) h s
termination_by SizeOf.sizeOf t
decreasing_by
 have:=List.sizeOf_lt_of_mem ‹_∈kids›;simp;omega
end ag
def aP (x:Int):Prop := -9223372036854775808≤x∧x≤9223372036854775807
def Ep (w:World) (p:Option Addr) (l:List Int):Prop:=
 ∀i x,l[i]?=some x→aP x∧∃g o,p=some ⟨g,o,none⟩∧w.cell? ⟨g,o+i,none⟩=some (.int .i64 x)
def fD (w:World) (v:Value) (l:List Int):Prop:=∃p c,v=.slice p l.length c∧l.length≤c∧c≤maxLen∧Ep w p l
mutual
def bw (w:World):ag→Value→Value→Value→Prop
 |.mk ks vs kids,a,b,c=>fD w a ks∧fD w b vs∧∃p cap,c=.slice p kids.length cap∧kids.length≤cap∧cap≤maxLen∧zB w p 0 kids
def zB (w:World) (p:Option Addr):Nat→List ag→Prop
 |_,[]=>True
 |i,t::ts=>(∃g o x y z,p=some ⟨g,o,none⟩∧w.cell? ⟨g,o+i*3,none⟩=some x∧w.cell? ⟨g,o+i*3+1,none⟩=some y∧w.cell? ⟨g,o+i*3+2,none⟩=some z∧bw w t x y z)∧zB w p (i+1) ts
end
def qx (w:World) (p:Option Addr) (i:Nat) (t:ag):Prop:=
 ∃g o x y z,p=some ⟨g,o,none⟩∧w.cell? ⟨g,o+i*3,none⟩=some x∧w.cell? ⟨g,o+i*3+1,none⟩=some y∧w.cell? ⟨g,o+i*3+2,none⟩=some z∧bw w t x y z
theorem zC {w:World} {p:Option Addr}:∀ {l:List ag} {i:Nat},zB w p i l↔∀j t,l[j]?=some t→qx w p (i+j) t
 |[],i=>⟨fun _ j t h=>by simp at h,fun _=>by simp only[zB]⟩
 |a::l,i=>by
  simp only[zB];rw[zC (l:=l)];constructor
  ·rintro ⟨h1,h2⟩ j t hj
   cases j with
   |zero=>simp only[List.getElem?_cons_zero,Option.some.injEq] at hj;subst hj;exact h1
   |succ j=>rw[List.getElem?_cons_succ] at hj;have:=h2 j t hj;rw[show i+(j+1)=i+1+j by omega];exact this
  ·intro h
   refine ⟨h 0 a rfl,fun j t hj=>?_⟩;have:=h (j+1) t (by rw[List.getElem?_cons_succ];exact hj);rw[show i+1+j=i+(j+1) by omega];exact this
def Er (w:World) (v:Value) (l:List ag):Prop:=∃p c,v=.slice p l.length c∧l.length≤c∧c≤maxLen∧∀j t,l[j]?=some t→qx w p j t
theorem bD {w:World} {t:ag} {a b c:Value}:bw w t a b c↔fD w a t.keys∧fD w b t.vals∧Er w c t.kids:=by
 cases t with
 |mk ks vs kids=>simp only[bw,ag.keys,ag.vals,ag.kids,Er,zC,Nat.zero_add]
theorem ae {W W':World} (hb:Bw W W') {a:Addr} {v:Value} (h:W.cell? a=some v):W'.cell? a=some v:=(hb.cell (World.block_lt_of_cell? W _ h)).trans h
def dJ (W W':World):Prop:=∀(a:Addr) (v:Value),W.cell? a=some v→W'.cell? a=some v
theorem af {W W':World} (hb:Bw W W'):dJ W W':=fun _ _ h=>ae hb h
theorem Ep.keep {w w':World} {p:Option Addr} {l:List Int} (h:Ep w p l) (hk:dJ w w'):Ep w' p l:=fun i x hx=>by obtain ⟨h0,g,o,h1,h2⟩:=h i x hx;exact ⟨h0,g,o,h1,hk _ _ h2⟩
theorem fD.keep {w w':World} {v:Value} {l:List Int} (h:fD w v l) (hk:dJ w w'):fD w' v l:=by obtain ⟨p,c,h1,h2,h3,h4⟩:=h;exact ⟨p,c,h1,h2,h3,h4.keep hk⟩
theorem bw.keep {w w':World} (hk:dJ w w'):∀ {t:ag} {a b c:Value},bw w t a b c→bw w' t a b c:=by
 intro t
 induction t using ag.ind with
 |h ks vs kids ih=>intro a b c h;rw[bD] at h ⊢;obtain ⟨h1,h2,p,cap,h3,h4,h5,h6⟩:=h;refine ⟨h1.keep hk,h2.keep hk,p,cap,h3,h4,h5,fun j t hj=>?_⟩;obtain ⟨g,o,x,y,z,e0,e1,e2,e3,e4⟩:=h6 j t hj;exact ⟨g,o,x,y,z,e0,hk _ _ e1,hk _ _ e2,hk _ _ e3,ih t (List.mem_of_getElem? hj) e4⟩
structure dy where
 id:Int
 size:Int
 map:ag
def vK (w:World) (v:Value) (d:dy):Prop:=∃a b c,v=.agg #[.int .i64 d.id,.int .i64 d.size,a,b,c]∧aP d.id∧aP d.size∧bw w d.map a b c
def eU (w:World) (v:Value) (l:List dy):Prop:=
 ∃p cap,v=.slice p l.length cap∧l.length≤cap∧cap≤maxLen∧∀j d,l[j]?=some d→aP d.id∧aP d.size∧∃g o a b c,p=some ⟨g,o,none⟩∧w.cell? ⟨g,o+j*5,none⟩=some (.int .i64 d.id)∧w.cell? ⟨g,o+j*5+1,none⟩=some (.int .i64 d.size) ∧
  w.cell? ⟨g,o+j*5+2,none⟩=some a∧w.cell? ⟨g,o+j*5+3,none⟩=some b∧w.cell? ⟨g,o+j*5+4,none⟩=some c∧bw w d.map a b c
theorem eU.keep {w w':World} {v:Value} {l:List dy} (h:eU w v l) (hk:dJ w w'):eU w' v l:=by obtain ⟨p,cap,h1,h2,h3,h4⟩:=h;refine ⟨p,cap,h1,h2,h3,fun j d hj=>?_⟩;obtain ⟨i1,i2,g,o,a,b,c,e0,e1,e2,e3,e4,e5,e6⟩:=h4 j d hj;exact ⟨i1,i2,g,o,a,b,c,e0,hk _ _ e1,hk _ _ e2,hk _ _ e3,hk _ _ e4,hk _ _ e5,e6.keep hk⟩
end Go.Proofs.YtbigkioechkngaaGreat
namespace Go.Proofs.YtbigkioechkngaaGreat
open Go.RowKit
mutual
def vL:ag→Bool
 |.mk ks vs kids=>QV kids&&(decide (ks.length≤30)&&decide (vs.length≤30)&&decide (kids.length≤30))
def QV:List ag→Bool
 |[]=>true
 |t::ts=>vL t&&QV ts
end
theorem uB:∀(l:List ag),QV l=l.all vL
 |[]=>by simp only[QV,List.all_nil]
 |t::ts=>by simp only[QV,List.all_cons,uB ts]
theorem kP {a b:Int} (h:a=b):Ending.returned (.int .i64 a)=.returned (.int .i64 b):=by rw[h]
theorem aO {a b:Bool} (h:a=b):Ending.returned (.bool a)=.returned (.bool b):=by rw[h]
def gT (g:Nat) (x y z:Value) (w:World):Prop:=w.cell? ⟨g,0,none⟩=some x∧w.cell? ⟨g,1,none⟩=some y∧w.cell? ⟨g,2,none⟩=some z
theorem gT.below {g:Nat} {x y z:Value} {w w':World} (h:gT g x y z w) (hb:Bw w w'):gT g x y z w':=⟨ae hb h.1,ae hb h.2.1,ae hb h.2.2⟩
theorem Va (t:ag):∀(a b c:Value) (w:World),bw w t a b c→Calls Tryz.prog 104 #[.agg #[a,b,c]] w fun e w'=>e=.returned (.bool (vL t))∧Bw w w':=by
 induction t using ag.ind with
 |h ks vs kids ih=>
  intro a b c w hn;have zD:=aa ih;clear ih;obtain ⟨⟨pa,ca,rfl,a1,a2,_⟩,⟨pb,cb,rfl,b1,b2,_⟩,⟨pc,cc,rfl,c1,c2,hk⟩⟩:=bD.1 hn;simp only[ag.keys,ag.vals,ag.kids] at a1 b1 c1 hk ⊢;have HK:=aa hk;clear hk hn;have hla:=fK (n:=ks.length) a2;have hlb:=fK (n:=vs.length) b2;have hlc:=fK (n:=kids.length) c2;clear a1 a2 b1 b2 c1 c2;go_enter Tryz.func104,Tryz.ntmps104;go_wp2_with fail;go_loopw [3] (fun i wr=>∃k:Nat,k≤kids.length∧i=.int .i64 k∧(∀j,j<k→∀s,kids[j]?=some s→vL s=true)∧gT w.heap.size (.slice pa ks.length ca) (.slice pb vs.length cb) (.slice pc kids.length cc) wr∧Bw w wr) (fun i _=>kids.length-(intOf i).toNat)
  case atStart=>exact ⟨0,dQ,rfl,fun j hj=>by omega,⟨by simp,by simp,by simp⟩,aq⟩
  case round=>
   obtain ⟨k,hk,rfl,hall,fN,hb⟩:=hrel;have HA:=aa hall;have HX:=aa fN;have HB:=aa hb;obtain ⟨q0,q1,q2⟩:=fN;have hlx:=World.block_lt_of_cell? _ _ q0;clear hall hb;by_cases hlt:k<kids.length
   case neg=>
    obtain rfl:k=kids.length:=by omega
    have HF:=aa (show vL (.mk ks vs kids)=(decide (ks.length≤30)&&decide (vs.length≤30)&&decide (kids.length≤30)) by
     simp only[vL,uB];rw[List.all_eq_true.2 (fun s hs=>by obtain ⟨j,hj⟩:=List.mem_iff_getElem?.1 hs;exact HA j (List.getElem?_eq_some_iff.1 hj).1 s hj),Bool.true_and])
    have hc:(¬(ks.length:Int)≤30)∨((ks.length:Int)≤30∧¬(vs.length:Int)≤30)∨((ks.length:Int)≤30∧(vs.length:Int)≤30∧¬(kids.length:Int)≤30)∨((ks.length:Int)≤30∧(vs.length:Int)≤30∧(kids.length:Int)≤30):=(by omega);rcases hc with h1|⟨h1,h2⟩|⟨h1,h2,h3⟩|⟨h1,h2,h3⟩
    all_goals
     go_wp2_with fail;go_ret;refine ⟨aO ?_,HB⟩;rw[HF.o]
     first|(simp;done)|(simp;omega)
   have fO:(k:Int)<(kids.length:Int):=(by omega);obtain ⟨s,hs⟩:=fy (l:=kids) (k:=k) hlt;obtain ⟨g,o,x,y,z,rfl,e1,e2,e3,e4⟩:=HK.o k s hs;have r1:=ae HB e1;have r2:=ae HB e2;have r3:=ae HB e3;have HN:=aa (e4.keep (af HB));have HS:=aa hs;have HM:=aa (List.mem_of_getElem? hs);clear hs e1 e2 e3 e4;cases hfs:vL s with
   |true=>
    have HT:=aa hfs;clear hfs;go_wp2_with fail;refine (zD s HM x y z _ HN).mono ?_;rintro e w1 ⟨rfl,hb⟩;rw[HT.o];have aZ:=aV HB hb;have aU:=aa (HX.below hb);clear hb;go_wp2_with fail;go_roundw
    case rel=>
     refine ⟨k+1,by omega,by go_num,fun j hj s' nU=>?_,aU.o,aZ.o⟩;by_cases e:j=k
     ·subst e;rw[HS.o] at nU;cases nU;exact HT.o
     ·exact HA j (by omega) s' nU
    case measure=>simp[intOf];omega
   |false=>
    have HT:=aa hfs;clear hfs;have HF:=aa (show vL (.mk ks vs kids)=false by
     simp only[vL,uB];rw[List.all_eq_false.2 ⟨s,HM,by rw[HT.o];simp⟩,Bool.false_and])
    go_wp2_with fail;refine (zD s HM x y z _ HN).mono ?_;rintro e w1 ⟨rfl,hb⟩;rw[HT.o];have aZ:=aV HB hb;clear hb;go_wp2_with fail;go_ret;exact ⟨aO HF.symm,aZ⟩
mutual
def fR:ag→Int→Int
 |.mk _ _ kids,most=>iW kids 1 most
def iW:List ag→Int→Int→Int
 |[],n,_=>n
 |t::ts,n,most=>if n<most then iW ts (n+fR t (most-n)) most else n
end
theorem Nj (l:List ag) (hl:∀t∈l,∀m,1≤m→1≤fR t m∧fR t m≤m):∀n most,1≤n→n≤most→n≤iW l n most∧iW l n most≤most:=by
 induction l with
 |nil=>intro n most h1 h2;simp only[iW];omega
 |cons t ts ih=>
  intro n most h1 h2;simp only[iW]
  split
  ·have h3:=hl t (by simp) (most-n) (by omega)
   have h4:=ih (fun s hs=>hl s (by simp[hs])) (n+fR t (most-n)) most (by omega) (by omega);omega
  ·omega
theorem Nk (t:ag):∀m,1≤m→1≤fR t m∧fR t m≤m:=by
 induction t using ag.ind with
 |h ks vs kids ih=>intro m hm;simp only[fR];exact Nj kids ih 1 m (by omega) hm
theorem Gd (l:List ag) {n most:Int} (h:¬n<most):iW l n most=n:=by
 cases l with
 |nil=>simp only[iW]
 |cons t ts=>simp only[iW];rw[if_neg h]
theorem CH (t:ag):∀(a b c:Value) (most:Int) (w:World),bw w t a b c→1≤most→most≤1000→Calls Tryz.prog 59 #[.agg #[a,b,c],.int .i64 most] w fun e w'=>e=.returned (.int .i64 (fR t most))∧Bw w w':=by
 induction t using ag.ind with
 |h ks vs kids ih=>
  intro a b c most w hn zi zE;have zD:=aa ih;clear ih;obtain ⟨⟨pa,ca,rfl,_,_,_⟩,⟨pb,cb,rfl,_,_,_⟩,⟨pc,cc,rfl,c1,c2,hk⟩⟩:=bD.1 hn;simp only[ag.keys,ag.vals,ag.kids] at c1 hk ⊢;have HK:=aa hk;clear hk hn;have hlc:=fK (n:=kids.length) c2;clear c1 c2;go_enter Tryz.func59,Tryz.ntmps59;go_wp2_with fail;go_loopw [5,6] (fun v i wr=>∃(k:Nat) (n:Int),k≤kids.length∧i=.int .i64 k∧v=.int .i64 n∧1≤n∧n≤most∧fR (.mk ks vs kids) most=iW (kids.drop k) n most∧gT w.heap.size (.slice pa ks.length ca) (.slice pb vs.length cb) (.slice pc kids.length cc) wr∧Bw w wr) (fun _ i _=>kids.length-(intOf i).toNat)
  case atStart=>exact ⟨0,1,dQ,rfl,rfl,by omega,zi,by simp only[fR,List.drop_zero],⟨by simp,by simp,by simp⟩,aq⟩
  case round=>
   obtain ⟨k,n,hk,rfl,rfl,hn1,hn2,QW,fN,hb⟩:=hrel;have HC:=aa QW;have HX:=aa fN;have HB:=aa hb;obtain ⟨q0,q1,q2⟩:=fN;have hlx:=World.block_lt_of_cell? _ _ q0;clear QW hb;by_cases hlt:k<kids.length
   case neg=>
    obtain rfl:k=kids.length:=by omega
    have HF:=aa (show fR (.mk ks vs kids) most=n by rw[HC.o,List.drop_length];simp only[iW]);go_wp2_with fail;go_ret;exact ⟨kP HF.symm,HB⟩
   have fO:(k:Int)<(kids.length:Int):=(by omega);by_cases hnm:n<most
   case neg=>have HF:=aa (show fR (.mk ks vs kids) most=n by rw[HC.o,Gd _ hnm]);go_wp2_with fail;go_ret;exact ⟨kP HF.symm,HB⟩
   obtain ⟨s,hs⟩:=fy (l:=kids) (k:=k) hlt;obtain ⟨g,o,x,y,z,rfl,e1,e2,e3,e4⟩:=HK.o k s hs;have r1:=ae HB e1;have r2:=ae HB e2;have r3:=ae HB e3;have HN:=aa (e4.keep (af HB));have HM:=aa (List.mem_of_getElem? hs);have iO:=Nk s (most-n) (by omega);have pK:=aa (show fR (.mk ks vs kids) most=iW (kids.drop (k+1)) (n+fR s (most-n)) most by
    obtain ⟨hk2,hx⟩:=List.getElem?_eq_some_iff.1 hs;rw[HC.o,List.drop_eq_getElem_cons hk2,hx];simp only[iW];rw[if_pos hnm])
   obtain ⟨q,hq⟩:=aG (fR s (most-n));rw[hq] at iO pK;have HQ:=aa hq;clear hs e1 e2 e3 e4 hq;go_wp2_with fail;refine (zD s HM x y z (most-n) _ HN (by omega) (by omega)).mono ?_;rintro e w1 ⟨rfl,hb⟩;rw[HQ.o];have aZ:=aV HB hb;have aU:=aa (HX.below hb);clear hb;go_wp2_with fail;go_roundw
   case rel=>exact ⟨k+1,n+q,by omega,by go_num,rfl,by omega,by omega,pK.o,aU.o,aZ.o⟩
   case measure=>simp[intOf];omega
def qy (t:ag):Bool:=decide (fR t 400<400)&&vL t
theorem J8 (t:ag) (a b c:Value) (w:World) (hn:bw w t a b c):Calls Tryz.prog 58 #[.agg #[a,b,c]] w fun e w'=>e=.returned (.bool (qy t))∧Bw w w':=by
 have fN:Bw w (w.alloc (.cells #[a,b,c] 73)):=aq;have HN:=aa hn;have HB:=aa fN;obtain ⟨⟨pa,ca,rfl,_,_,_⟩,⟨pb,cb,rfl,_,_,_⟩,⟨pc,cc,rfl,_,_,_⟩⟩:=bD.1 hn;clear hn fN;go_enter Tryz.func58,Tryz.ntmps58;go_wp2_with fail;refine (CH t _ _ _ 400 _ (HN.keep (af HB)) (by omega) (by omega)).mono ?_;rintro e w1 ⟨rfl,hb⟩;have aZ:=aV HB hb;have aU:=aa (show gT w.heap.size (.slice pa t.keys.length ca) (.slice pb t.vals.length cb) (.slice pc t.kids.length cc) w1 from gT.below ⟨by simp,by simp,by simp⟩ hb);clear hb;obtain ⟨q,hq⟩:=aG (fR t 400);rw[hq];have HQ:=aa hq;clear hq;obtain ⟨q0,q1,q2⟩:=aU.o;have hlx:=World.block_lt_of_cell? _ _ q0;by_cases hlt:q<400
 ·have HF:=aa (show qy t=vL t by unfold qy;rw[HQ.o];simp[hlt])
  go_wp2_with fail;refine (Va t _ _ _ _ (HN.keep (af aZ))).mono ?_;rintro e w2 ⟨rfl,hb⟩;have bU:=aV aZ hb;clear hb;go_wp2_with fail;go_ret;exact ⟨aO HF.symm,bU⟩
 ·have HF:=aa (show qy t=false by unfold qy;rw[HQ.o];simp;omega)
  go_wp2_with fail;go_ret;exact ⟨aO HF.symm,aZ⟩
mutual
def cH:ag→Int→Int
 |.mk _ _ kids,most=>if most=0 then 0 else lu kids (most-1)
def lu:List ag→Int→Int
 |[],_=>1
 |t::ts,m=>if uC ts m (cH t m)=true then (if cH t m=0 then 0 else cH t m+1) else 0
def uC:List ag→Int→Int→Bool
 |[],_,_=>true
 |t::ts,m,d=>decide (cH t m=d)&&uC ts m d
end
theorem nY (m d:Int):∀l:List ag,uC l m d=l.all fun t=>decide (cH t m=d)
 |[]=>by simp only[uC,List.all_nil]
 |t::ts=>by simp only[uC,List.all_cons,nY m d ts]
theorem uD (t:ag):∀m,0≤m→0≤cH t m∧cH t m≤m:=by
 induction t using ag.ind with
 |h ks vs kids ih=>
  intro m hm;simp only[cH]
  split
  ·omega
  ·cases kids with
   |nil=>simp only[lu];omega
   |cons t ts=>
    have:=ih t (by simp) (m-1) (by omega);simp only[lu]
    split
    ·split <;> omega
    ·omega
theorem QX (t:ag):∀(a b c:Value) (most:Int) (w:World),bw w t a b c→0≤most→most≤1000→Calls Tryz.prog 205 #[.agg #[a,b,c],.int .i64 most] w fun e w'=>e=.returned (.int .i64 (cH t most))∧Bw w w':=by
 induction t using ag.ind with
 |h ks vs kids ih=>
  intro a b c most w hn zi zE;have zD:=aa ih;clear ih;obtain ⟨⟨pa,ca,rfl,_,_,_⟩,⟨pb,cb,rfl,_,_,_⟩,⟨pc,cc,rfl,c1,c2,hk⟩⟩:=bD.1 hn;simp only[ag.keys,ag.vals,ag.kids] at c1 hk ⊢;have HK:=aa hk;clear hk hn;have hlc:=fK (n:=kids.length) c2;clear c1 c2;have kI:=aa (show Bw w (w.alloc (.cells #[.slice pa ks.length ca,.slice pb vs.length cb,.slice pc kids.length cc] 73)) from aq);by_cases h0:most=0
  ·have HF:=aa (show cH (.mk ks vs kids) most=0 by simp only[cH];rw[if_pos h0])
   have hb0:(most==0)=true:=(by simpa using h0);clear h0;go_enter Tryz.func205,Tryz.ntmps205;go_wp2_with fail;go_ret;exact ⟨kP HF.symm,kI⟩
  have hb0:(most==0)=false:=by simpa using h0
  have H0:=aa h0;have Vb:1≤most:=by omega
  clear h0;cases kids with
  |nil=>have HF:=aa (show cH (.mk ks vs []) most=1 by simp only[cH,lu];rw[if_neg H0.o]);go_enter Tryz.func205,Tryz.ntmps205;go_wp2_with fail;go_ret;exact ⟨kP HF.symm,kI⟩
  |cons t0 ts=>
   have BX:((t0::ts).length:Int)=(ts.length:Int)+1:=(by simp);obtain ⟨N,hN⟩:∃N:Nat,(t0::ts).length=N:=⟨_,rfl⟩
   have hNp:0<(N:Int):=by rw[List.length_cons] at hN;omega
   have aqW:((N:Int)==0)=false:=by rw[beq_eq_false_iff_ne];omega
   rw[hN] at hlc kI ⊢;have lz:=aa hN;clear hN BX;obtain ⟨g,o,x,y,z,rfl,e1,e2,e3,e4⟩:=HK.o 0 t0 rfl;simp only[Nat.zero_mul,Nat.add_zero] at e1 e2 e3;have r1:=ae kI e1;have r2:=ae kI e2;have r3:=ae kI e3;have YW:=aa (e4.keep (af kI));have hg:=World.block_lt_of_cell? _ _ e1;clear e4;go_enter Tryz.func205,Tryz.ntmps205;go_wp2_with fail;refine (zD t0 (by simp) x y z (most-1) _ YW (by omega) (by omega)).mono ?_;rintro e w1 ⟨rfl,hb⟩;have hd:=uD t0 (most-1) (by omega);obtain ⟨D,hD⟩:=aG (cH t0 (most-1));rw[hD] at hd ⊢;have HD:=aa hD;clear hD;have aZ:=aV kI hb;have aU:=aa (show gT w.heap.size (.slice pa ks.length ca) (.slice pb vs.length cb) (.slice (some ⟨g,o,none⟩) N cc) w1 from gT.below ⟨by simp,by simp,by simp⟩ hb);have HE:=aa (show cH (.mk ks vs (t0::ts)) most=if (ts.all fun s=>decide (cH s (most-1)=D))=true then (if D=0 then 0 else D+1) else 0 by
    simp only[cH,lu,nY,HD.o];rw[if_neg H0.o])
   clear hb e1 e2 e3 r1 r2 r3;have ajm:=World.block_lt_of_cell? _ _ aU.1;obtain ⟨q0,q1,q2⟩:=aU.o;go_wp2_with fail;go_loopw [6] (fun i wr=>∃k:Nat,1≤k∧k≤N∧i=.int .i64 k∧(∀j,1≤j→j<k→∀s,(t0::ts)[j]?=some s→cH s (most-1)=D)∧gT w.heap.size (.slice pa ks.length ca) (.slice pb vs.length cb) (.slice (some ⟨g,o,none⟩) N cc) wr∧Bw w wr) (fun i _=>N-(intOf i).toNat)
   case atStart=>exact ⟨1,aT,by omega,rfl,fun j h1 h2=>by omega,aU,aZ⟩
   case round=>
    clear q0 q1 q2 ajm;obtain ⟨k,Es,hk,rfl,hall,fN,hb⟩:=hrel;have HA:=aa hall;have HX:=aa fN;have HB:=aa hb;obtain ⟨q0,q1,q2⟩:=fN;have hlx:=World.block_lt_of_cell? _ _ q0;clear hall hb;by_cases hlt:k<N
    case neg=>
     obtain rfl:k=N:=by omega
     have ez:=aa (show (ts.all fun s=>decide (cH s (most-1)=D))=true from List.all_eq_true.2 (fun s hs=>by
      obtain ⟨j,hj⟩:=List.mem_iff_getElem?.1 hs;have Ur:=(List.getElem?_eq_some_iff.1 hj).1;have hNl:=lz.o;rw[List.length_cons] at hNl;exact decide_eq_true (HA.o (j+1) (by omega) (by omega) s (by rw[List.getElem?_cons_succ];exact hj))))
     by_cases hz:D=0
     ·have HF:=aa (show cH (.mk ks vs (t0::ts)) most=0 by rw[HE.o,if_pos ez.o,if_pos hz])
      have hzb:(D==0)=true:=(by simpa using hz);clear hz;go_wp2_with fail;go_ret;exact ⟨kP HF.symm,HB⟩
     ·have HF:=aa (show cH (.mk ks vs (t0::ts)) most=D+1 by rw[HE.o,if_pos ez.o,if_neg hz])
      have hzb:(D==0)=false:=(by simpa using hz);clear hz;go_wp2_with fail;go_ret;exact ⟨kP HF.symm,HB⟩
    have fO:(k:Int)<(N:Int):=(by omega);obtain ⟨s,hs⟩:∃s,(t0::ts)[k]?=some s:=⟨_,List.getElem?_eq_getElem (by rw[lz.o];exact hlt)⟩
    obtain ⟨g',o',x',y',z',hgo,e1,e2,e3,e4⟩:=HK.o k s hs;cases hgo;have r1:=ae HB e1;have r2:=ae HB e2;have r3:=ae HB e3;have HN:=aa (e4.keep (af HB));have HS:=aa hs;have HM:=aa (List.mem_of_getElem? hs);have XJ:=uD s (most-1) (by omega);obtain ⟨E,hE⟩:=aG (cH s (most-1));rw[hE] at XJ;have HEE:=aa hE;clear hs e1 e2 e3 e4 hE;by_cases hed:E=D
    ·have hne:(E != D)=false:=by simpa using hed
     have HED:=aa hed;clear hed;go_wp2_with fail;refine (zD s HM x' y' z' (most-1) _ HN (by omega) (by omega)).mono ?_;rintro e w2 ⟨rfl,hb⟩;rw[HEE.o];have bU:=aV HB hb;have dY:=aa (HX.below hb);clear hb;go_wp2_with fail;go_roundw
     case rel=>
      refine ⟨k+1,by omega,by omega,by go_num,fun j h1 h2 s' nU=>?_,dY.o,bU.o⟩;by_cases e:j=k
      ·subst e;rw[HS.o] at nU;cases nU;rw[HEE.o];exact HED.o
      ·exact HA j h1 (by omega) s' nU
     case measure=>simp[intOf];omega
    ·have hne:(E != D)=true:=by simpa using hed
     have HF:=aa (show cH (.mk ks vs (t0::ts)) most=0 by
      obtain ⟨j,rfl⟩:∃j,k=j+1:=⟨k-1,by omega⟩
      have hsm:=HS.o;rw[List.getElem?_cons_succ] at hsm;rw[HE.o,if_neg];intro hall;have:=List.all_eq_true.1 hall s (List.mem_of_getElem? hsm);rw[HEE.o] at this;exact hed (by simpa using this))
     clear hed;go_wp2_with fail;refine (zD s HM x' y' z' (most-1) _ HN (by omega) (by omega)).mono ?_;rintro e w2 ⟨rfl,hb⟩;rw[HEE.o];have bU:=aV HB hb;clear hb;go_wp2_with fail;go_ret;exact ⟨kP HF.symm,bU⟩
theorem dP {P:Program} (w:World) (base:Nat) (t ty e:TypeId) (i:TypeInfo) (z:Value) (size bytes:Nat) (ht:P.underlying t=some (.slice e)) (hi:P.info? e=some i) (hz:i.zero=some z)
 (hsize:i.size=size) (hby:i.bytes=bytes) (hzs:z.cells.size=size) (hsz:0<size) (v:Value) (n:Nat) (xs:List Value) (hown:w.ownsRow base e size v n xs)
 (p:Option Addr) (m c:Nat) (news:List Value) (jq:iN w p m size news) (hc:p=none→c=0) (h63:n+m≤maxLen) (hbytes:(n+m)*bytes≤140737488355328) (hbase:base≤w.heap.size) :
 ∃v' w',(Builtin.append_ #[t,t] ty #[v,.slice p m c]).run P w=.ok v' w'∧w'.ownsRow base e size v' (n+m) (xs++news)∧w.grownBy w' v.ownBlock:=by
 cases p with
 |none=>obtain rfl:=jq.2.1 rfl;obtain rfl:=hc rfl;obtain rfl:news=[]:=List.eq_nil_of_length_eq_zero (by have:=jq.1;simpa using this);exact ⟨v,w,run_append_owned_none (P:=P) (w:=w) base t ty e i size ht hi v n xs hown,by simpa using hown,kq _ _⟩
 |some a=>obtain ⟨v',w',h1,h2,h3,_⟩:=run_append_own_at (P:=P) w base t ty e i z size bytes ht hi hz hsize hby hzs hsz v n xs hown a m c news jq.1 (jq.2.2.2 a rfl) jq.2.2.1 h63 hbytes hbase;exact ⟨v',w',h1,h2,h3⟩
abbrev az:=Int×Int
def Et (p:az):List Value:=[.int .i64 p.1,.int .i64 p.2]
def bN (l:List az):List (List Value):=l.map Et
theorem nK (l:List az) (p:az):(bN (l++[p])).flatten=(bN l).flatten++[.int .i64 p.1,.int .i64 p.2]:=by unfold bN;rw[List.map_append,List.flatten_append];rfl
theorem Eu (a b:List az):(bN (a++b)).flatten=(bN a).flatten++(bN b).flatten:=by unfold bN;rw[List.map_append,List.flatten_append]
theorem Ev (l:List az):∀u∈(bN l).flatten,u.oneCell'=true:=by intro u hu;unfold bN at hu;rw[List.mem_flatten] at hu;obtain ⟨r,hr,hu⟩:=hu;rw[List.mem_map] at hr;obtain ⟨p,_,rfl⟩:=hr;simp only[Et,List.mem_cons,List.not_mem_nil,or_false] at hu;rcases hu with rfl|rfl <;> rfl
mutual
def aB:ag→List az
 |.mk ks vs kids=>(if kids.length=0 then ks.zip vs else [])++bR kids
def bR:List ag→List az
 |[]=>[]
 |t::ts=>aB t++bR ts
end
theorem bZ:∀l:List ag,bR l=(l.map aB).flatten
 |[]=>by simp only[bR,List.map_nil,List.flatten_nil]
 |t::ts=>by simp only[bR,List.map_cons,List.flatten_cons,bZ ts]
theorem qz {l:List ag} {k:Nat} {s:ag} (h:l[k]?=some s):bR (l.take (k+1))=bR (l.take k)++aB s:=by obtain ⟨hk,rfl⟩:=List.getElem?_eq_some_iff.1 h;rw[List.take_succ_eq_append_getElem hk,bZ,bZ,List.map_append,List.flatten_append];simp
theorem Ge {a b:List Int} {k:Nat} {x y:Int} (ha:a[k]?=some x) (hb:b[k]?=some y):(a.zip b).take (k+1)=(a.zip b).take k++[(x,y)]:=by
 have hz:(a.zip b)[k]?=some (x,y):=by rw[List.getElem?_zip_eq_some];exact ⟨ha,hb⟩
 obtain ⟨hk,e⟩:=List.getElem?_eq_some_iff.1 hz;rw[List.take_succ_eq_append_getElem hk,e]
theorem Gf:(Tryz.prog.info? 82).map (fun i=>(i.zero,i.size,i.bytes))=some (some (.agg #[.int .i64 0,.int .i64 0]),2,16):=by kernel_rfl
theorem kr {W W':World} {B:Nat} {e:TypeId} {size n:Nat} {v:Value} {xs:List Value} (h:W.ownsRow B e size v n xs) (hb:Bw W W'):W'.ownsRow B e size v n xs:=
 h.kept (row:=none) ⟨hb.os,hb.tape,hb.output,hb.size,fun k hk _=>hb.block k hk⟩ (Classical.or_iff_not_imp_left.2 fun h=>h)
theorem QY {B n:Nat} {v:Value} {l:List az} {w:World} (h:w.ownsRow B 82 2 v n (bN l).flatten):∃p c,v=.slice p n c∧(p=none→c=0)∧iN w p n 2 (bN l).flatten:=by
 obtain ⟨p,c,hv,_,_,hs⟩:=YV h (Ev l);refine ⟨p,c,hv,fun hp=>?_,hs⟩;subst hp;rcases aK h with ⟨h1,_,_⟩|⟨g,cap,h1⟩
 ·rw[hv] at h1;injection h1 with _ _ h3
 ·rw[hv] at h1;injection h1 with h2;cases h2
theorem gT.grown {b:Nat} {x y z:Value} {W W':World} {row:Option Nat} (h:gT b x y z W) (hg:W.grownBy W' row) (hne:some b≠row):gT b x y z W':=⟨hg.cell h.1 hne,hg.cell h.2.1 hne,hg.cell h.2.2 hne⟩
def ajo (w:World) (bx:Value×Value×Value) (kids:List ag) (v i:Value) (wr:World):Prop:=
 ∃(k:Nat) (vv:Value),vv=v∧k≤kids.length∧i=.int .i64 k∧wr.ownsRow (w.heap.size+1) 82 2 v (bR (kids.take k)).length (bN (bR (kids.take k))).flatten∧gT w.heap.size bx.1 bx.2.1 bx.2.2 wr∧Bw w wr
theorem Gg (l:List ag) (k:Nat):(bR (l.take k)).length≤(bR l).length:=by
 have:bR l=bR (l.take k)++bR (l.drop k):=by rw[bZ,bZ,bZ,← List.flatten_append,← List.map_append,List.take_append_drop]
 rw[this,List.length_append];omega
theorem zF {W:World} {x y:Value}:∀j u,[x,y][j]?=some u→(W.alloc (.cells #[x,y] 82)).cell? ((⟨W.heap.size,0,none⟩:Addr).add j)=some u:=by
 intro j u hu;rw[jS,World.cell?_alloc_at _ _ _ _ rfl];rcases j with _|_|j
 ·exact hu
 ·exact hu
 ·simp at hu
theorem Nl {ops:Array Oper} {o:Oper} {a:Act} {K:Act→World→Prop} {Q:Exit→Act→World→Prop} {E:Prop} {v:Value} {k B s1 s2:Nat} {xs:List Value} {x y:Int} {W:World}
 (hg:o.guard=none) (ho:o.op=.call {callee:=.builtin .append,args := #[.tmp s1,.tmp s2],argTypes := #[76,76]})
 (hs:a.eval (.tmp s1)=v) (hx:a.eval (.tmp s2)=.slice (some ⟨W.heap.size,0,none⟩) 1 1) (hown:W.ownsRow B 82 2 v k xs) (hk:k≤1000000) (hB:B≤W.heap.size)
 (h:∀g cap w',w'.ownsRow B 82 2 (.slice (some ⟨g,0,none⟩) (k+1) cap) (k+1) (xs++[.int .i64 x,.int .i64 y])→(W.alloc (.cells #[.int .i64 x,.int .i64 y] 82)).grownBy w' v.ownBlock→K (a.put o.dst (.slice (some ⟨g,0,none⟩) (k+1) cap)) w') :
 if Region.wanted o (yielded ops a.tmps)=true then Oper.wp Tryz.prog o a (W.alloc (.cells #[.int .i64 x,.int .i64 y] 82)) K Q else E:=by
 obtain ⟨i0,iP,hz0,hz1,hz2⟩:=info_parts Gf;exact step_append_lies _ hg (.tmp s1) (.tmp s2) 76 ho B 82 i0 (.agg #[.int .i64 0,.int .i64 0]) 2 16 Tryz.underlying76 iP hz0 hz1 hz2 rfl (by decide) v k xs hs (World.ownsRow.alloc hown _) ⟨W.heap.size,0,none⟩ 1 1 [.int .i64 x,.int .i64 y] hx rfl zF (by intro u hu;simp only[List.mem_cons,List.not_mem_nil,or_false] at hu;rcases hu with rfl|rfl <;> rfl) Nat.one_pos
  (by unfold maxLen;omega) (by omega) (by simp;omega) (W.heap.size+1) (by simp) (fun g cap w' h1 h2 _ _=>h g cap w' h1 h2)
theorem ku (t:ag):∀(a b c:Value) (w:World),bw w t a b c→(aB t).length≤1000000→Calls Tryz.prog 43 #[.agg #[a,b,c]] w fun e w'=>∃v',e=.returned v'∧w'.ownsRow w.heap.size 82 2 v' (aB t).length (bN (aB t)).flatten∧Bw w w':=by
 induction t using ag.ind with
 |h ks vs kids ih=>
  intro a b c w hn hlen;have zD:=aa ih;clear ih;obtain ⟨⟨pa,ca,rfl,a1,a2,ha⟩,⟨pb,cb,rfl,b1,b2,Nn⟩,⟨pc,cc,rfl,c1,c2,hk⟩⟩:=bD.1 hn;simp only[ag.keys,ag.vals,ag.kids] at a1 b1 c1 ha Nn hk ⊢;have HK:=aa hk;have HA:=aa ha;have HV:=aa Nn;clear hk hn ha Nn;have hlc:=fK (n:=kids.length) c2;obtain ⟨i0,hi,hz0,hz1,hz2⟩:=info_parts Gf;clear c1 c2;have HLEN:=aa hlen;clear hlen;cases hkc:kids with
  |nil=>
   subst hkc;have Vc:=aa (show aB (.mk ks vs [])=ks.zip vs by simp only[aB,bR];simp);have hzl:(ks.zip vs).length≤1000000:=by rw[← Vc.o];exact HLEN.o
   have hzm:(ks.zip vs).length≤ks.length∧(ks.zip vs).length≤vs.length∧(ks.length≤(ks.zip vs).length∨vs.length≤(ks.zip vs).length):=by rw[List.length_zip];omega
   obtain ⟨Z,hZ⟩:=aG ((ks.zip vs).length);rw[hZ] at hzl hzm;have HZ:=aa hZ;clear hZ;have hla:=fK (n:=ks.length) a2;have hlb:=fK (n:=vs.length) b2;clear a1 b1 a2 b2 hlc;go_enter Tryz.func43,Tryz.ntmps43;go_wp2_with fail;go_loopw [3,4] (fun v i wr=>∃(k:Nat) (vv:Value),vv=v∧k≤Z∧i=.int .i64 k∧wr.ownsRow (w.heap.size+1) 82 2 v ((ks.zip vs).take k).length (bN ((ks.zip vs).take k)).flatten∧gT w.heap.size (.slice pa ks.length ca) (.slice pb vs.length cb) (.slice pc 0 cc) wr∧Bw w wr) (fun _ i _=>Z-(intOf i).toNat)
   case atStart=>
    refine ⟨0,_,rfl,dQ,rfl,?_,⟨by simp,by simp,by simp⟩,(aq).alloc (by simp) _⟩;have:=World.ownsRow_made (w.alloc (.cells #[.slice pa ks.length ca,.slice pb vs.length cb,.slice pc 0 cc] 73)) #[] 0 (base:=w.heap.size+1) (e:=82) (size:=2) (by simp) (by unfold maxLen;omega) rfl
    simpa [bN] using this
   case round=>
    obtain ⟨k,vv,YX,hk,rfl,hown,fN,hb⟩:=hrel;subst YX;have HO:=aa hown;have HX:=aa fN;have HB:=aa hb;obtain ⟨q0,q1,q2⟩:=fN;have hlx:=World.block_lt_of_cell? _ _ q0;clear hown hb;by_cases hlt:k<Z
    case neg=>
     obtain rfl:k=Z:=by omega
     have kQ:=aa (show wr.ownsRow w.heap.size 82 2 vv (aB (.mk ks vs [])).length (bN (aB (.mk ks vs []))).flatten by
      have:=HO.o;rw[List.take_of_length_le (by rw[HZ.o];exact aT)] at this;rw[Vc.o];exact bC (by omega) this)
     have hc:(¬(k:Int)<(ks.length:Int))∨((k:Int)<(ks.length:Int)∧¬(k:Int)<(vs.length:Int)):=(by omega);rcases hc with h1|⟨h1,h2⟩
     all_goals
      go_wp2_with fail;go_loopw [3,5] (fun v i w'=>vv=v∧i=.int .i64 0∧wr=w') (fun _ _ _=>0)
      case atStart=>exact ⟨rfl,rfl,rfl⟩
      case round=>obtain ⟨rfl,rfl,rfl⟩:=hrel;go_wp2_with fail;go_ret;exact ⟨_,rfl,kQ,HB⟩
    have hka:(k:Int)<(ks.length:Int):=(by omega);have hkb:(k:Int)<(vs.length:Int):=by omega
    have ajp:(0:Int)≤(k:Int):=(by omega);obtain ⟨x,hx⟩:=fy (l:=ks) (k:=k) (by omega);obtain ⟨y,hy⟩:=fy (l:=vs) (k:=k) (by omega);obtain ⟨_,ga,oa,rfl,BZ⟩:=HA.o k x hx;obtain ⟨_,gb,ob,rfl,Ch⟩:=HV.o k y hy;have hga:=World.block_lt_of_cell? _ _ BZ;have hgb:=World.block_lt_of_cell? _ _ Ch;have QZ:=aa (show ∀b,b<w.heap.size+1→some b≠vv.ownBlock from fun b hb e=>by have:=(HO.lt _ e.symm).1;omega);have rx:=ae HB BZ;have ry:=ae HB Ch;have yN:=aa (Ge hx hy);have vM:((ks.zip vs).take k).length≤1000000:=by rw[List.length_take];omega
    have HO0:=HO;clear HO;obtain ⟨L,hL⟩:=aG ((ks.zip vs).take k);rw[hL] at vM yN HO0;have HLQ:=aa hL;clear hL;have HO:=HO0;have vN:=aa vM;have HOD:=aa (kr HO aH.drew);have fL:=aa (show w.heap.size+1≤wr.drew.heap.size from hlx);clear hx hy BZ Ch vM;go_wp2_with fail;go_region_held3 (fun w'=>w'.cell? ⟨w.heap.size,0,none⟩=some (.slice (some ⟨ga,oa,none⟩) ks.length ca)∧w'.cell? ⟨w.heap.size,1,none⟩=some (.slice (some ⟨gb,ob,none⟩) vs.length cb)∧w'.cell? ⟨ga,oa+k,none⟩=some (.int .i64 x)∧w'.cell? ⟨gb,ob+k,none⟩=some (.int .i64 y))
     (first|exact ⟨q0,q1,rx,ry⟩|exact ⟨ae (aq) q0,ae (aq) q1,ae (aq) rx,ae (aq) ry⟩|exact Q0.o)
     ((refine Nl rfl rfl rfl rfl HOD.o vN.o fL.o ?_;intro gg cap w1 hown1 vO;have HG:=aa vO;have Q0:=aa (And.intro (vO.cell (ae (aq) (show wr.drew.cell? _=_ from q0)) (QZ.o w.heap.size (by omega))) (And.intro (vO.cell (ae (aq) (show wr.drew.cell? _=_ from q1)) (QZ.o w.heap.size (by omega))) (And.intro (vO.cell (ae (aq) (show wr.drew.cell? _=_ from rx)) (QZ.o ga (by omega))) (vO.cell (ae (aq) (show wr.drew.cell? _=_ from ry)) (QZ.o gb (by omega))))))))
    have aU:=aa ((gT.below (show gT w.heap.size (.slice (some ⟨ga,oa,none⟩) ks.length ca) (.slice (some ⟨gb,ob,none⟩) vs.length cb) (.slice pc 0 cc) wr.drew from HX) (aq)).grown HG (QZ w.heap.size (by omega)));have aZ:=aa ((HB.drew.alloc (show w.heap.size≤wr.drew.heap.size from HB.size) _).grown HG (by simp;have:=HB.size;omega) (fun q e=>by have:=(HO.lt q e).1;omega));have Mn:=aa hown1;clear hown1 vO;go_wp2_with fail;go_roundw
    case rel=>refine ⟨k+1,_,rfl,by omega,by go_num,?_,aU.o,aZ.o⟩;rw[yN.o,nK,List.length_append];exact Mn.o
    case measure=>simp[intOf];omega
  |cons t0 ts=>
   have HKC:=aa (show kids.length≠0 by rw[hkc];simp);rw[← hkc];clear hkc;have Vc:=aa (show aB (.mk ks vs kids)=bR kids by simp only[aB];rw[if_neg HKC.o,List.nil_append]);have Np:((kids.length:Int)==0)=false:=by rw[beq_eq_false_iff_ne];have:=HKC.o;omega
   go_enter Tryz.func43,Tryz.ntmps43;go_wp2_with fail;go_loopw [3,5] (fun v i wr=>ajo w (.slice pa ks.length ca,.slice pb vs.length cb,.slice pc kids.length cc) kids v i wr) (fun _ i _=>kids.length-(intOf i).toNat)
   case atStart=>
    refine ⟨0,_,rfl,dQ,rfl,?_,⟨by simp,by simp,by simp⟩,(aq).alloc (by simp) _⟩;have:=World.ownsRow_made (w.alloc (.cells #[.slice pa ks.length ca,.slice pb vs.length cb,.slice pc kids.length cc] 73)) #[] 0 (base:=w.heap.size+1) (e:=82) (size:=2) (by simp) (by unfold maxLen;omega) rfl
    simpa [bR,bN] using this
   case round=>
    obtain ⟨k,vv,YX,hk,rfl,hown,fN,hb⟩:=hrel;subst YX;have HO:=aa hown;have HX:=aa fN;have HB:=aa hb;obtain ⟨q0,q1,q2⟩:=fN;simp only at q0 q1 q2;have hlx:=World.block_lt_of_cell? _ _ q0;clear hown hb;by_cases hlt:k<kids.length
    case neg=>
     obtain rfl:k=kids.length:=by omega
     go_wp2_with fail;go_ret;refine ⟨_,rfl,?_,HB⟩;have:=HO.o;rw[List.take_length] at this;rw[Vc.o];exact bC (by omega) this
    have fO:(k:Int)<(kids.length:Int):=(by omega);obtain ⟨s,hs⟩:=fy (l:=kids) (k:=k) hlt;obtain ⟨g,o,x,y,z,rfl,e1,e2,e3,e4⟩:=HK.o k s hs;have r1:=ae HB e1;have r2:=ae HB e2;have r3:=ae HB e3;have HN:=aa (e4.keep (af HB));have HM:=aa (List.mem_of_getElem? hs);have hsn:=qz hs;have hmo:=Gg kids (k+1);have XK:=HLEN.o;rw[Vc.o] at XK;rw[hsn,List.length_append] at hmo;have xD:(aB s).length≤1000000:=by omega
    have vM:(bR (kids.take k)).length+(aB s).length≤1000000:=(by omega);have yN:=aa hsn;have vN:=aa vM;clear hs e1 e2 e3 e4 hsn hmo XK vM;go_wp2_with fail;refine (zD s HM x y z _ HN xD).mono ?_;rintro e w1 ⟨v1,rfl,hrow,hb1⟩;obtain ⟨p1,n1,hv1,XL,jq⟩:=QY hrow;subst hv1;have Mn:=aa (kr HO hb1);have aU:=aa (HX.below hb1);have aZ:=aV HB hb1;obtain ⟨v2,w2,hrun,hown2,hg2⟩:=dP (P:=Tryz.prog) w1 (w.heap.size+1) 76 76 82 i0 (.agg #[.int .i64 0,.int .i64 0]) 2 16 Tryz.underlying76 hi hz0 hz1 hz2 rfl (by decide) vv _ _ Mn p1 (aB s).length n1 _ jq XL (by have:=vN.o;unfold maxLen;omega) (by have:=vN.o;omega) (by have:=aZ.size;have:=hb1.size;omega);have HR:=aa hrun;have nM:=aa hown2;have dY:=aa (aU.grown hg2 (fun e=>by have:=(Mn.lt _ e.symm).1;omega));have bU:=aa (aZ.grown hg2 aZ.size (fun k e=>by have:=(Mn.lt k e).1;omega));clear hrow hb1 jq XL hrun hown2 hg2;go_wp2_with (at_builtin;refine Lib.wpList_append_run _ rfl _ _ _ _ rfl _ _ rfl rfl _ _ HR.o ?_);go_roundw
    case rel=>refine ⟨k+1,_,rfl,by omega,by go_num,?_,dY.o,bU.o⟩;rw[yN.o,List.length_append,Eu];exact nM.o
    case measure=>simp[intOf];omega
mutual
def bG:ag→Int→Bool
 |.mk ks vs kids,low=>decide (low≤ks.length∧ks.length≤4)&&(if kids.length=0 then decide (vs.length=ks.length) else decide (vs.length=0∧kids.length=ks.length∧2≤ks.length)&&oU kids ks)
def oU:List ag→List Int→Bool
 |[],_=>true
 |t::ts,ks=>(bG t 2&&decide (t.keys.head?=ks.head?))&&oU ts ks.tail
end
theorem eV:∀(l:List ag) (ks:List Int),oU l ks=true↔∀(j:Nat) (t:ag),l[j]?=some t→bG t 2=true∧t.keys.head?=ks[j]?
 |[],ks=>by simp[oU]
 |t::ts,ks=>by
  simp only[oU,Bool.and_eq_true,decide_eq_true_eq,eV ts ks.tail];constructor
  ·rintro ⟨⟨h1,h2⟩,h3⟩ j s hj
   cases j with
   |zero=>simp only[List.getElem?_cons_zero,Option.some.injEq] at hj;subst hj;exact ⟨h1,by rw[h2];cases ks <;> rfl⟩
   |succ j=>rw[List.getElem?_cons_succ] at hj;have:=h3 j s hj;exact ⟨this.1,by rw[this.2];cases ks <;> rfl⟩
  ·intro h
   have h0:=h 0 t rfl;refine ⟨⟨h0.1,by rw[h0.2];cases ks <;> rfl⟩,fun j s hj=>?_⟩;have:=h (j+1) s (by rw[List.getElem?_cons_succ];exact hj);exact ⟨this.1,by rw[this.2];cases ks <;> rfl⟩
abbrev Nq:=Bool×Int
def ig:List Int→Nq→Option Nq
 |[],s=>some s
 |k::ks,s=>if s.1=true∧k≤s.2 then none else ig ks (true,k)
theorem vP:∀(a b:List Int) (s:Nq),ig (a++b) s=(ig a s).bind (ig b)
 |[],b,s=>by simp only[List.nil_append,ig,Option.bind_some]
 |k::a,b,s=>by
  simp only[List.cons_append,ig]
  split
  ·rfl
  ·exact vP a b _
abbrev vQ:=Int×Nq
def mf (ks vs:List Int) (depth:Int) (s:vQ):Option vQ:=
 if vs.length=ks.length∧(s.1=0∨s.1=depth) then (ig ks s.2).map fun q=>(depth,q) else none
mutual
def iw:ag→Int→vQ→Option vQ
 |.mk ks vs kids,depth,s=>
  if depth>40∨ks.length>4∨(depth>1∧ks.length<2) then none
  else if kids.length=0 then mf ks vs depth s
  else if vs.length≠0∨kids.length≠ks.length∨kids.length<2 then none
  else jC kids ks depth s
def jC:List ag→List Int→Int→vQ→Option vQ
 |[],_,_,s=>some s
 |t::ts,ks,depth,s=>if t.keys.length=0∨t.keys.head?≠ks.head? then none else
  match iw t (depth+1) s with
  |none=>none
  |some s'=>jC ts ks.tail depth s'
end
def dW (t:ag):List Int:=(aB t).map Prod.fst
def uE (l:List ag):List Int:=(bR l).map Prod.fst
theorem zG (t:ag) (ts:List ag):uE (t::ts)=dW t++uE ts:=by unfold uE dW;simp only[bR,List.map_append]
def uF (depth:Int):Int:=if depth>1 then 2 else 0
def Ew (t:ag) (depth:Int) (s s':vQ):Prop:=
 cH t (41-depth)≠0∧bG t (uF depth)=true∧s'.1=depth+cH t (41-depth)-1∧(s.1=0∨s.1=s'.1)∧ig (dW t) s.2=some s'.2
def J9 (ts:List ag) (ks:List Int) (depth:Int) (s s':vQ):Prop:=
 (∀(j:Nat) (t:ag),ts[j]?=some t→cH t (40-depth)≠0∧bG t 2=true∧t.keys.head?=ks[j]?∧s'.1=depth+cH t (40-depth))∧(s.1=s'.1∨(s.1=0∧ts≠[]))∧ig (uE ts) s.2=some s'.2
theorem CI {t:ag} (h:bG t 2=true):2≤t.keys.length:=by
 cases t with
 |mk ks vs kids=>simp only[bG,Bool.and_eq_true,decide_eq_true_eq] at h;simp only[ag.keys];omega
theorem Nr (ts:List ag) (hts:∀t∈ts,∀depth,1≤depth→depth≤41→∀s s',iw t depth s=some s'↔Ew t depth s s') :
 ∀(ks:List Int) (depth:Int) (s s':vQ),1≤depth→depth≤40→(jC ts ks depth s=some s'↔J9 ts ks depth s s'):=by
 induction ts with
 |nil=>
  intro ks depth s s' _ _;simp only[jC,J9,Option.some.injEq];constructor
  ·rintro rfl;exact ⟨fun j t h=>by simp at h,.inl rfl,rfl⟩
  ·rintro ⟨_,h1,h2⟩
   rcases h1 with h1|⟨_,h1⟩
   ·have CJ:s.2=s'.2:=by simpa [uE,bR,ig] using h2
    exact Prod.ext h1 CJ
   ·exact absurd rfl h1
 |cons t ts ih=>
  intro ks depth s s' h1 h2;have iht:=hts t (by simp) (depth+1) (by omega) (by omega);have ihs:=ih (fun u hu=>hts u (by simp[hu]));have e41:41-(depth+1)=40-depth:=by omega
  have Q1:uF (depth+1)=2:=by unfold uF;rw[if_pos (by omega)]
  simp only[jC];constructor
  ·intro h
   split at h
   ·exact absurd h (by simp)
   rename_i hk;have hk2:t.keys.head?=ks.head?:=by
    by_cases e:t.keys.head?=ks.head?
    ·exact e
    ·exact absurd (Or.inr e) hk
   cases hn:iw t (depth+1) s with
   |none=>rw[hn] at h;exact absurd h (by simp)
   |some m=>
    rw[hn] at h;simp only at h;obtain ⟨a1,a2,a3,a4,a5⟩:=(iht s m).1 hn;obtain ⟨b1,b2,b3⟩:=(ihs ks.tail depth m s' h1 h2).1 h;rw[e41] at a1 a3;rw[Q1] at a2;have em:m.1=s'.1:=by
     rcases b2 with b2|⟨b2,_⟩
     ·exact b2
     ·have:=uD t (40-depth) (by omega);omega
    refine ⟨fun j u hj=>?_,?_,?_⟩
    ·cases j with
     |zero=>simp only[List.getElem?_cons_zero,Option.some.injEq] at hj;subst hj;exact ⟨a1,a2,by rw[hk2];cases ks <;> rfl,by omega⟩
     |succ j=>rw[List.getElem?_cons_succ] at hj;have:=b1 j u hj;exact ⟨this.1,this.2.1,by rw[this.2.2.1];cases ks <;> rfl,this.2.2.2⟩
    ·rcases a4 with a4|a4
     ·exact .inr ⟨a4,by simp⟩
     ·exact .inl (by omega)
    ·rw[zG,vP,a5];exact b3
  ·rintro ⟨g1,g2,g3⟩
   have g0:=g1 0 t rfl;rw[if_neg (by
    rintro (e|e)
    ·have:=CI g0.2.1;omega
    ·exact e (by rw[g0.2.2.1];cases ks <;> rfl))]
   rw[zG,vP] at g3;cases hq:ig (dW t) s.2 with
   |none=>rw[hq] at g3;exact absurd g3 (by simp)
   |some q=>
    rw[hq] at g3;have hn:iw t (depth+1) s=some (s'.1,q):=(iht s (s'.1,q)).2 ⟨by rw[e41];exact g0.1,by rw[Q1];exact g0.2.1,by rw[e41];have:=g0.2.2.2;simp only;omega,by
     rcases g2 with g2|⟨g2,_⟩
     ·exact .inr g2
     ·exact .inl g2,hq⟩
    rw[hn];simp only;refine (ihs ks.tail depth _ s' h1 h2).2 ⟨fun j u hj=>?_,.inl rfl,g3⟩;have:=g1 (j+1) u (by rw[List.getElem?_cons_succ];exact hj);exact ⟨this.1,this.2.1,by rw[this.2.2.1];cases ks <;> rfl,this.2.2.2⟩
theorem Ns (t:ag):∀depth,1≤depth→depth≤41→∀s s',iw t depth s=some s'↔Ew t depth s s':=by
 induction t using ag.ind with
 |h ks vs kids ih=>
  intro depth h1 h2 s s';have Gh:=Nr kids ih;simp only[iw,Ew,bG,cH];by_cases h41:depth=41
  ·subst h41
   rw[if_pos (by omega),if_pos (by omega)];simp
  rw[if_neg (show ¬(41-depth=0) by omega)];have Q1:(depth>1∧ks.length<2)↔¬uF depth≤(ks.length:Int):=by unfold uF;split <;> omega
  by_cases hb:depth>40∨ks.length>4∨(depth>1∧ks.length<2)
  ·rw[if_pos hb]
   have:decide (uF depth≤(ks.length:Int)∧ks.length≤4)=false:=by
    rw[decide_eq_false_iff_not];rintro ⟨c1,c2⟩;rcases hb with hb|hb|hb
    ·omega
    ·omega
    ·exact Q1.1 hb c1
   simp[this]
  rw[if_neg hb];have hT:decide (uF depth≤(ks.length:Int)∧ks.length≤4)=true:=by
   rw[decide_eq_true_eq];refine ⟨?_,by omega⟩;by_cases hl:uF depth≤(ks.length:Int)
   ·exact hl
   ·exact absurd (.inr (.inr (Q1.2 hl))) hb
  rw[hT,Bool.true_and];cases kids with
  |nil=>
   simp only[List.length_nil,if_true,lu,mf];have hz:vs.length=ks.length→dW (.mk ks vs [])=ks:=by intro h;unfold dW;simp only[aB,bR,List.length_nil,if_true,List.append_nil];exact List.map_fst_zip (by omega)
   by_cases hv:vs.length=ks.length
   ·rw[hz hv,decide_eq_true hv]
    by_cases hs:s.1=0∨s.1=depth
    ·rw[if_pos ⟨hv,hs⟩]
     cases hq:ig ks s.2 with
     |none=>simp
     |some q=>
      simp only[Option.map_some,Option.some.injEq,ne_eq,true_and];constructor
      ·rintro rfl;exact ⟨by omega,by omega,by rcases hs with hs|hs <;> simp[hs],rfl⟩
      ·rintro ⟨_,c1,c2,c3⟩;exact Prod.ext (by simp only;omega) c3
    ·rw[if_neg (fun c=>hs c.2)]
     constructor
     ·intro h;exact absurd h (by simp)
     ·rintro ⟨_,_,c1,c2,c3⟩;exact absurd (show s.1=0∨s.1=depth by omega) hs
   ·rw[if_neg (fun c=>hv c.1),decide_eq_false hv];simp
  |cons t ts=>
   rw[if_neg (by simp),if_neg (show ¬(t::ts).length=0 by simp)];by_cases hc:vs.length≠0∨(t::ts).length≠ks.length∨(t::ts).length<2
   ·rw[if_pos hc,decide_eq_false (by omega)];simp
   rw[if_neg hc,decide_eq_true (by omega),Bool.true_and,Gh ks depth s s' h1 (by omega)];have e40:41-depth-1=40-depth:=by omega
   have XM:dW (.mk ks vs (t::ts))=uE (t::ts):=by unfold dW uE;simp only[aB];rw[if_neg (by simp),List.nil_append]
   rw[XM,e40,eV];simp only[lu,nY,J9];have Q2:=uD t (40-depth) (by omega);constructor
   ·rintro ⟨c1,c2,c3⟩
    have c0:=c1 0 t rfl;have hall:(ts.all fun u=>decide (cH u (40-depth)=cH t (40-depth)))=true:=List.all_eq_true.2 fun u hu=>by obtain ⟨j,hj⟩:=List.mem_iff_getElem?.1 hu;have:=c1 (j+1) u (by rw[List.getElem?_cons_succ];exact hj);exact decide_eq_true (by omega)
    rw[if_pos hall,if_neg c0.1];exact ⟨by omega,fun j u hj=>⟨(c1 j u hj).2.1,(c1 j u hj).2.2.1⟩,by omega,by rcases c2 with c2|⟨c2,_⟩ <;> simp[c2],c3⟩
   ·rintro ⟨c1,c2,c3,c4,c5⟩
    split at c1
    ·rename_i hall
     rw[if_pos hall] at c3
     split at c1
     ·exact absurd rfl c1
     ·rename_i hne
      rw[if_neg hne] at c3;refine ⟨fun j u hj=>?_,by rcases c4 with c4|c4 <;> simp[c4],c5⟩;have hu:cH u (40-depth)=cH t (40-depth):=by
       cases j with
       |zero=>simp only[List.getElem?_cons_zero,Option.some.injEq] at hj;rw[hj]
       |succ j=>rw[List.getElem?_cons_succ] at hj;exact of_decide_eq_true (List.all_eq_true.1 hall u (List.mem_of_getElem? hj))
      exact ⟨by rw[hu];exact hne,(c2 j u hj).1,(c2 j u hj).2,by omega⟩
    ·exact absurd rfl c1
def jD (l:List az):Bool:=(ig (l.map Prod.fst) (false,0)).isSome
def jT (t:ag):Bool:=decide (cH t 40≠0)&&bG t 0&&jD (aB t)
theorem Nt (t:ag):(iw t 1 (0,(false,0))).isSome=jT t:=by
 have h:=Ns t 1 (by omega) (by omega) (0,(false,0));unfold Ew at h;simp only[show (41:Int)-1=40 from rfl,show uF 1=0 from rfl] at h;rw[Bool.eq_iff_iff,Option.isSome_iff_exists];unfold jT jD;simp only[Bool.and_eq_true,decide_eq_true_eq,Option.isSome_iff_exists];constructor
 ·rintro ⟨s',hs⟩
  have:=(h s').1 hs;exact ⟨⟨this.1,this.2.1⟩,s'.2,this.2.2.2.2⟩
 ·rintro ⟨⟨h1,h2⟩,q,h3⟩
  exact ⟨(1+cH t 40-1,q),(h (1+cH t 40-1,q)).2 ⟨h1,h2,by simp only,by simp,h3⟩⟩
theorem CK:∀(l:List Int) (s:Nq),(ig l s).isSome=true↔(∀i x y,l[i]?=some x→l[i+1]?=some y→x<y)∧(s.1=true→∀x,l[0]?=some x→s.2<x)
 |[],s=>by simp[ig]
 |k::ks,s=>by
  simp only[ig]
  split
  ·rename_i h
   constructor
   ·intro h2;exact absurd h2 (by simp)
   ·rintro ⟨_,h2⟩;have:=h2 h.1 k rfl;omega
  ·rename_i h
   rw[CK ks];constructor
   ·rintro ⟨h1,h2⟩
    refine ⟨fun i x y hx hy=>?_,fun hs x hx=>?_⟩
    ·cases i with
     |zero=>simp only[List.getElem?_cons_zero,Option.some.injEq] at hx;subst hx;exact h2 rfl y (by simpa using hy)
     |succ i=>rw[List.getElem?_cons_succ] at hx hy;exact h1 i x y hx hy
    ·simp only[List.getElem?_cons_zero,Option.some.injEq] at hx;subst hx
     by_cases hle:k≤s.2
     ·exact absurd ⟨hs,hle⟩ h
     ·omega
   ·rintro ⟨h1,_⟩
    exact ⟨fun i x y hx hy=>h1 (i+1) x y (by rw[List.getElem?_cons_succ];exact hx) (by rw[List.getElem?_cons_succ];exact hy),fun _ x hx=>h1 0 k x rfl (by rw[List.getElem?_cons_succ];exact hx)⟩
theorem rO (l:List az):jD l=true↔∀i x y,l[i]?=some x→l[i+1]?=some y→x.1<y.1:=by
 unfold jD;rw[CK];constructor
 ·rintro ⟨h,_⟩ i x y hx hy
  exact h i x.1 y.1 (by rw[List.getElem?_map,hx];rfl) (by rw[List.getElem?_map,hy];rfl)
 ·intro h
  refine ⟨fun i x y hx hy=>?_,fun e=>absurd e (by simp)⟩;rw[List.getElem?_map] at hx hy;cases jg:l[i]? with
  |none=>rw[jg] at hx;exact absurd hx (by simp)
  |some p=>
   cases B1:l[i+1]? with
   |none=>rw[B1] at hy;exact absurd hy (by simp)
   |some q=>rw[jg] at hx;rw[B1] at hy;simp only[Option.map_some,Option.some.injEq] at hx hy;subst hx hy;exact h i p q jg B1
theorem Vd {P:Program} {ops:Array Oper} {Q:Exit→Act→World→Prop} {md:Region.Mode} {S:World→Prop} {i:Nat} {d:Option Tmp} {v:Value} {oi:Oper} {fuel:Nat} {listed:Array Bool} {a:Act} {w:World}
 (hi:ops[i]?=some oi) (hd:oi.dst=d) (hs:Region.noSelect ops=true) (hf:Region.free md ops listed i=true) (hr:(Region.ready md ops listed).contains i=true)
 (hQ:∀c a w,Q (.panic c) (a.put d v) w→Q (.panic c) a w) (hS:S w) (hw:Region.wanted oi (yielded ops a.tmps)=true) (hy:∀w,S w→(execOp a.eval oi).run P w=.ok (.value v) w)
 (h:wpAnyH P md ops Q S fuel (listed.setIfInBounds i true) (a.put d v) w):wpAnyH P md ops Q S (fuel+1) listed a w:=by
 subst hd;exact wpAnyH_take hi hs hf hr hQ (Or.inl ⟨hw,hy⟩) hS h
theorem Ve {P:Program} {ops:Array Oper} {Q:Exit→Act→World→Prop} {md:Region.Mode} {S:World→Prop} {i:Nat} {d:Option Tmp} {oi:Oper} {fuel:Nat} {listed:Array Bool} {a:Act} {w:World}
 (hi:ops[i]?=some oi) (hd:oi.dst=d) (hs:Region.noSelect ops=true) (hf:Region.free md ops listed i=true) (hr:(Region.ready md ops listed).contains i=true)
 (hQ:∀c a w,Q (.panic c) (a.put d undef) w→Q (.panic c) a w) (hS:S w) (hw:Region.wanted oi (yielded ops a.tmps)=false)
 (h:wpAnyH P md ops Q S fuel (listed.setIfInBounds i true) (a.put d undef) w):wpAnyH P md ops Q S (fuel+1) listed a w:=by
 subst hd;exact wpAnyH_take hi hs hf hr hQ (Or.inr ⟨hw,rfl⟩) hS h
theorem aF:(∀(a:Act) (d:Option Tmp) (v:Value),a.put d v=match d with|none=>a|some d=>{a with tmps:=a.tmps.setIfInBounds d v})∧(∀(l:List Value) (i:Nat) (v:Value),l.toArray.setIfInBounds i v=(l.set i v).toArray)∧(∀(x v:Value) (l:List Value),(x::l).set 0 v=v::l)∧(∀(x v:Value) (l:List Value) (i:Nat),(x::l).set (i+1) v=x::l.set i v):=
 ⟨fun a d v=>by cases d <;> rfl,fun l i v=>List.setIfInBounds_toArray ..,fun _ _ _=>rfl,fun _ _ _ _=>rfl⟩
section
variable {P:Program} {ops:Array Oper} {Q:Exit→Act→World→Prop} {md:Region.Mode} {S:World→Prop} {fuel:Nat} {listed:Array Bool} {a:Act} {w:World}
theorem cD {oi:Oper} (i:Nat) (d:Tmp) (v:Value) (hi:ops[i]?=some oi) (hd:oi.dst=some d) (hS:S w) (h:wpAnyH P md ops Q S fuel (listed.setIfInBounds i true) (a.put (some d) v) w)
 (hy:∀w,S w→(execOp a.eval oi).run P w=.ok (.value v) w:=by intro w' hSw;(try dsimp only at hSw);go_split_ands;go_simp) (hs:Region.noSelect ops=true:=by kernel_rfl) (hf:Region.free md ops listed i=true:=by kernel_rfl) (hr:(Region.ready md ops listed).contains i=true:=by kernel_rfl) (hQ:∀c a w,Q (.panic c) (a.put (some d) v) w→Q (.panic c) a w:=by exact fun _ _ _ h=>h) (hw:Region.wanted oi (yielded ops a.tmps)=true:=by kernel_rfl):wpAnyH P md ops Q S (fuel+1) listed a w:=
 Vd hi hd hs hf hr hQ hS hw hy h
theorem nV {oi:Oper} (i:Nat) (d:Tmp) (hi:ops[i]?=some oi) (hd:oi.dst=some d) (hS:S w) (h:wpAnyH P md ops Q S fuel (listed.setIfInBounds i true) (a.put (some d) undef) w)
 (hs:Region.noSelect ops=true:=by kernel_rfl) (hf:Region.free md ops listed i=true:=by kernel_rfl) (hr:(Region.ready md ops listed).contains i=true:=by kernel_rfl) (hQ:∀c a w,Q (.panic c) (a.put (some d) undef) w→Q (.panic c) a w:=by exact fun _ _ _ h=>h) (hw:Region.wanted oi (yielded ops a.tmps)=false:=by kernel_rfl):wpAnyH P md ops Q S (fuel+1) listed a w:=
 Ve hi hd hs hf hr hQ hS hw h
theorem rgR (h:AllReadyH P md ops Q S fuel listed a w (Region.ready md ops listed)) (hn:(Region.ready md ops listed).isEmpty=false:=by decide +kernel):wpAnyH P md ops Q S (fuel+1) listed a w:=
 wpAnyH_ready rfl (fun e=>by rw[e] at hn;cases hn) h
theorem rgN {rs:List Nat} (h:rs.isEmpty=true:=by decide +kernel):AllReadyH P md ops Q S fuel listed a w rs:=fun i hi=>by rw[List.isEmpty_iff] at h;rw[h] at hi;cases hi
theorem yO {o:Oper} {rs:List Nat} (i:Nat) (ho:ops[i]?=some o) (h:∀K':Act→World→Prop,Shut (∀a w,S w→(S w→wpAnyH P md ops Q S fuel (listed.setIfInBounds i true) a w)→K' a w)→if Region.wanted o (yielded ops a.tmps)=true then Oper.wp P o a w K' Q else K' (a.put o.dst undef) w)
 (hs:AllReadyH P md ops Q S fuel listed a w rs.tail) (e:rs.head?=some i:=by decide +kernel):AllReadyH P md ops Q S fuel listed a w rs:=by
 cases rs with
 |nil=>cases e
 |cons j l=>cases e;exact AllReadyH.cons ho h hs
theorem kn {o:Oper} (i:Nat) (ho:ops[i]?=some o) (h:∀K':Act→World→Prop,Shut (∀a w,S w→(S w→wpAnyH P md ops Q S fuel (listed.setIfInBounds i true) a w)→K' a w)→if Region.wanted o (yielded ops a.tmps)=true then Oper.wp P o a w K' Q else K' (a.put o.dst undef) w)
 (hr:Region.ready md ops listed=[i]:=by kernel_rfl):wpAnyH P md ops Q S (fuel+1) listed a w:=wpAnyH_ready hr (by simp) (AllReadyH.cons ho h AllReadyH.nil)
end
theorem Nu (t:ag):∀(a b c:Value) (low:Int) (w:World),bw w t a b c→0≤low→low≤2→Calls Tryz.prog 206 #[.agg #[a,b,c],.int .i64 low] w fun e w'=>e=.returned (.bool (bG t low))∧Bw w w':=by
 induction t using ag.ind with
 |h ks vs kids ih=>
  intro a b c low w hn BX hl2;have zD:=aa ih;clear ih;obtain ⟨⟨pa,ca,rfl,a1,a2,ha⟩,⟨pb,cb,rfl,b1,b2,Nn⟩,⟨pc,cc,rfl,c1,c2,hk⟩⟩:=bD.1 hn;simp only[ag.keys,ag.vals,ag.kids] at a1 b1 c1 ha hk ⊢;have HK:=aa hk;have XN:=aa ha;clear hk hn ha Nn;obtain ⟨K,hK⟩:=aG ks.length;obtain ⟨M,hM⟩:=aG vs.length;obtain ⟨N,hN⟩:=aG kids.length;rw[hK] at a1 ⊢;rw[hM] at b1 ⊢;rw[hN] at c1 ⊢;have hla:=fK (n:=K) a2;have hlb:=fK (n:=M) b2;have hlc:=fK (n:=N) c2;have vN:=aa hK;have qA:=aa hM;have lz:=aa hN;clear a1 b1 c1 a2 b2 c2 hK hM hN;have kR:=aa (show bG (.mk ks vs kids) low=(decide (low≤(K:Int)∧K≤4)&&(if N=0 then decide (M=K) else decide (M=0∧N=K∧2≤K)&&oU kids ks)) by simp only[bG];rw[vN.o,qA.o,lz.o]);have kI:=aa (show Bw w (w.alloc (.cells #[.slice pa K ca,.slice pb M cb,.slice pc N cc] 73)) from aq);by_cases hA:low≤(K:Int)∧K≤4
  case neg=>
   have HF:=aa (show bG (.mk ks vs kids) low=false by rw[kR.o,decide_eq_false hA,Bool.false_and]);have hc:((K:Int)<low)∨(¬(K:Int)<low∧4<(K:Int)):=by omega
   clear hA;rcases hc with h1|⟨h1,h2⟩
   all_goals
    go_enter Tryz.func206,Tryz.ntmps206;go_wp2_with fail;go_ret;exact ⟨aO HF.symm,kI⟩
  have Us:¬(K:Int)<low:=by omega
  have hA4:¬4<(K:Int):=by omega
  have HA:=aa hA;by_cases hB:N=0
  ·have HF:=aa (show bG (.mk ks vs kids) low=decide (M=K) by rw[kR.o,decide_eq_true hA,Bool.true_and,if_pos hB])
   have hz:((N:Int)==0)=true:=by rw[hB];rfl
   clear hA hB;by_cases hv:M=K
   ·have HV:=aa hv
    have hvb:((M:Int)==(K:Int))=true:=by rw[hv];simp
    clear hv;go_enter Tryz.func206,Tryz.ntmps206;go_wp2_with fail;go_ret;exact ⟨aO (by rw[HF.o,decide_eq_true HV.o]),kI⟩
   ·have HV:=aa hv
    have hvb:((M:Int)==(K:Int))=false:=by rw[beq_eq_false_iff_ne];omega
    clear hv;go_enter Tryz.func206,Tryz.ntmps206;go_wp2_with fail;go_ret;exact ⟨aO (by rw[HF.o,decide_eq_false HV.o]),kI⟩
  have hz:((N:Int)==0)=false:=by rw[beq_eq_false_iff_ne];omega
  by_cases hC:M=0∧N=K∧2≤K
  case neg=>
   have HF:=aa (show bG (.mk ks vs kids) low=false by rw[kR.o,decide_eq_true hA,Bool.true_and,if_neg hB,decide_eq_false hC,Bool.false_and]);have hc:(0<M)∨(decide (0<M)=false∧N≠K)∨(decide (0<M)=false∧N=K∧(K:Int)<2):=by rw[decide_eq_false_iff_not];omega
   clear hC hA hB;rcases hc with h1|⟨h1,h2⟩|⟨h1,h2,h3⟩
   ·go_enter Tryz.func206,Tryz.ntmps206
    go_wp2_with fail;go_ret;exact ⟨aO HF.o.symm,kI.o⟩
   ·have hne:((N:Int) != (K:Int))=true:=by rw[bne_iff_ne];omega
    clear h2;go_enter Tryz.func206,Tryz.ntmps206;go_wp2_with fail;go_ret;exact ⟨aO HF.symm,kI⟩
   ·have hne:((N:Int) != (K:Int))=false:=by rw[h2];simp
    clear h2;go_enter Tryz.func206,Tryz.ntmps206;go_wp2_with fail;go_ret;exact ⟨aO HF.symm,kI⟩
  have HFC:=aa (show bG (.mk ks vs kids) low=oU kids ks by rw[kR.o,decide_eq_true hA,Bool.true_and,if_neg hB,decide_eq_true hC,Bool.true_and]);obtain ⟨hC1,hC2,hC3⟩:=hC;have hne:((N:Int) != (K:Int))=false:=by rw[hC2];simp
  have hv0:decide (0<M)=false:=by rw[decide_eq_false_iff_not];omega
  have hk2:¬(K:Int)<2:=by omega
  subst hC2;have Gi:=aa hC3;clear hA hB hC1 hC3 HA kR;go_enter Tryz.func206,Tryz.ntmps206;go_wp2_with fail;go_loopw [6] (fun i wr=>∃k:Nat,k≤N∧i=.int .i64 k∧(∀(j:Nat) (s:ag),j<k→kids[j]?=some s→bG s 2=true∧s.keys.head?=ks[j]?)∧gT w.heap.size (.slice pa N ca) (.slice pb M cb) (.slice pc N cc) wr∧Bw w wr) (fun i _=>N-(intOf i).toNat)
  case atStart=>exact ⟨0,dQ,rfl,fun j s hj=>by omega,⟨by simp,by simp,by simp⟩,kI⟩
  case round=>
   obtain ⟨k,hk,rfl,hall,fN,hb⟩:=hrel;have ez:=aa hall;have HX:=aa fN;have HB:=aa hb;obtain ⟨q0,q1,q2⟩:=fN;have hlx:=World.block_lt_of_cell? _ _ q0;clear hall hb;by_cases hlt:k<N
   case neg=>
    obtain rfl:k=N:=by omega
    have HF:=aa (show bG (.mk ks vs kids) low=true by
     rw[HFC.o,eV];intro j s hj;exact ez j s (by have:=(List.getElem?_eq_some_iff.1 hj).1;rw[lz.o] at this;exact this) hj)
    go_wp2_with fail;go_ret;exact ⟨aO HF.symm,HB⟩
   have fO:(k:Int)<(N:Int):=(by omega);obtain ⟨s,hs⟩:=fy (l:=kids) (k:=k) (by rw[lz.o];exact hlt);obtain ⟨x,hx⟩:=fy (l:=ks) (k:=k) (by rw[vN.o];exact hlt);obtain ⟨g,o,x1,y,z,rfl,e1,e2,e3,e4⟩:=HK.o k s hs;obtain ⟨_,ga,oa,rfl,BZ⟩:=XN.o k x hx;have r1:=ae HB e1;have r2:=ae HB e2;have r3:=ae HB e3;have rx:=ae HB BZ;have zH:=aa (show bw wr.drew s x1 y z from (e4.keep (af HB)).keep (af aH.drew));have HS:=aa hs;have HM:=aa (List.mem_of_getElem? hs);have HXX:=aa hx;clear hs hx e1 e2 e3 e4 BZ;cases hsz:bG s 2 with
   |false=>
    have HT:=aa hsz;clear hsz;have HF:=aa (show bG (.mk ks vs kids) low=false by
     rw[HFC.o,← Bool.not_eq_true,eV];intro h;have:=(h k s HS).1;rw[HT.o] at this;exact absurd this (by simp))
    clear rx;go_wp2_with fail;refine wp_region_held_drew (S:=fun w'=>w'.cell? ⟨w.heap.size,2,none⟩=some (.slice (some ⟨g,o,none⟩) N cc)∧w'.cell? ⟨g,o+k*3,none⟩=some x1∧w'.cell? ⟨g,o+k*3+1,none⟩=some y∧w'.cell? ⟨g,o+k*3+2,none⟩=some z) (by kernel_rfl) ⟨q2,r1,r2,r3⟩ (fun hHeld=>?_);refine cD 0 46 (.pointer (some ⟨w.heap.size,2,none⟩)) rfl rfl hHeld ?_;simp only[aF];refine cD 1 47 (.slice (some ⟨g,o,none⟩) N cc) rfl rfl hHeld ?_;simp only[aF];refine cD 2 48 (.int .i64 k) rfl rfl hHeld ?_;simp only[aF];refine cD 3 49 (.pointer (some ⟨g,o+k*3,none⟩)) rfl rfl hHeld ?_;simp only[aF];refine cD 4 50 (.agg #[x1,y,z]) rfl rfl hHeld ?_;simp only[aF];refine kn 5 rfl (fun K hK=>?_);go_simp;refine (zD s HM x1 y z 2 _ zH (by omega) (by omega)).mono ?_;rintro e w1 ⟨rfl,hb⟩;have aZ:=aa (ak (Below.refl _ wr).drew hb);have kg:=aa (And.intro (ae hb (show wr.drew.cell? _=_ from q2)) (And.intro (ae hb (show wr.drew.cell? _=_ from r1)) (And.intro (ae hb (show wr.drew.cell? _=_ from r2)) (ae hb (show wr.drew.cell? _=_ from r3)))));clear hb;rw[HT.o];clear hHeld;go_simp;refine hK.out _ _ kg (fun hHeld=>?_);clear hK K;refine cD 6 52 (.bool true) rfl rfl hHeld ?_;simp only[aF];refine cD 7 53 (.bool true) rfl rfl hHeld ?_;simp only[aF];refine nV 8 54 rfl rfl hHeld ?_;simp only[aF];refine nV 9 55 rfl rfl hHeld ?_;simp only[aF];refine nV 10 56 rfl rfl hHeld ?_;simp only[aF];refine nV 11 57 rfl rfl hHeld ?_;simp only[aF];refine nV 12 58 rfl rfl hHeld ?_;simp only[aF];refine nV 13 59 rfl rfl hHeld ?_;simp only[aF];refine nV 14 60 rfl rfl hHeld ?_;simp only[aF];refine nV 15 61 rfl rfl hHeld ?_;simp only[aF];refine nV 16 62 rfl rfl hHeld ?_;simp only[aF];refine nV 17 63 rfl rfl hHeld ?_;simp only[aF];refine nV 18 64 rfl rfl hHeld ?_;simp only[aF];refine nV 19 65 rfl rfl hHeld ?_;simp only[aF];refine nV 20 66 rfl rfl hHeld ?_;simp only[aF];refine nV 21 67 rfl rfl hHeld ?_;simp only[aF];refine cD 22 68 (.bool true) rfl rfl hHeld ?_;simp only[aF];refine wpAnyH_done (by kernel_rfl) ?_ _;go_wp2_with fail;go_ret;exact ⟨aO HF.symm,ak HB aZ⟩
   |true=>
    obtain ⟨⟨p',c',rfl,l1,l2,XO⟩,_,_⟩:=bD.1 zH.o;have HL:=aa (CI hsz);obtain ⟨h,hh⟩:=fy (l:=s.keys) (k:=0) (by have:=HL.o;omega);obtain ⟨_,gh,oh,rfl,Q3⟩:=XO 0 h hh;simp only[Nat.add_zero] at Q3;have vM:(0:Int)<(s.keys.length:Int):=by have:=HL.o;omega
    obtain ⟨KK,hKK⟩:=aG s.keys.length;rw[hKK] at vM r1 zH l1;have aq1:0<KK:=by omega
    have Vf:=fK (n:=KK) l2;have HHH:=aa (show s.keys.head?=some h by rw[List.head?_eq_getElem?];exact hh);have HT:=aa hsz;clear hsz hh XO l1 l2 hKK;by_cases Gj:h=x
    ·have Q4:(h != x)=false:=by rw[Gj];simp
     have HXE:=aa Gj;clear Gj;go_wp2_with fail;go_region_held3 (fun w'=>w'.cell? ⟨w.heap.size,2,none⟩=some (.slice (some ⟨g,o,none⟩) N cc)∧w'.cell? ⟨w.heap.size,0,none⟩=some (.slice (some ⟨ga,oa,none⟩) N ca)∧w'.cell? ⟨g,o+k*3,none⟩=some (.slice (some ⟨gh,oh,none⟩) KK c')∧w'.cell? ⟨g,o+k*3+1,none⟩=some y∧w'.cell? ⟨g,o+k*3+2,none⟩=some z∧w'.cell? ⟨ga,oa+k,none⟩=some (.int .i64 x)∧w'.cell? ⟨gh,oh,none⟩=some (.int .i64 h))
      (first|exact ⟨q2,q0,r1,r2,r3,rx,Q3⟩|exact kg.o)
      (((with_reducible refine (zD.o s HM.o _ y z 2 _ zH.o (by omega) (by omega)).mono ?_);rintro e w1 ⟨rfl,hb⟩;have aZ:=aa (ak (Below.refl _ wr).drew hb);have kg:=aa (And.intro (ae hb (show wr.drew.cell? _=_ from q2)) (And.intro (ae hb (show wr.drew.cell? _=_ from q0)) (And.intro (ae hb (show wr.drew.cell? _=_ from r1)) (And.intro (ae hb (show wr.drew.cell? _=_ from r2)) (And.intro (ae hb (show wr.drew.cell? _=_ from r3)) (And.intro (ae hb (show wr.drew.cell? _=_ from rx)) (ae hb (show wr.drew.cell? _=_ from Q3))))))));clear hb;rw[HT.o]))
     go_wp2_with fail;go_roundw
     case rel=>
      refine ⟨k+1,by omega,by go_num,fun j s' hj nU=>?_,HX.o.below aZ.o,ak HB.o aZ.o⟩;by_cases e:j=k
      ·subst e
       rw[HS.o] at nU;cases nU;exact ⟨HT,by rw[HHH.o,HXX.o,HXE.o]⟩
      ·exact ez j s' (by omega) nU
     case measure=>simp[intOf];omega
    ·have Q4:(h != x)=true:=by rw[bne_iff_ne];exact Gj
     have HF:=aa (show bG (.mk ks vs kids) low=false by
      rw[HFC.o,← Bool.not_eq_true,eV];intro hall;have:=(hall k s HS).2;rw[HHH.o,HXX.o] at this;injection this with this;exact Gj this)
     clear Gj;go_wp2_with fail;go_region_held3 (fun w'=>w'.cell? ⟨w.heap.size,2,none⟩=some (.slice (some ⟨g,o,none⟩) N cc)∧w'.cell? ⟨w.heap.size,0,none⟩=some (.slice (some ⟨ga,oa,none⟩) N ca)∧w'.cell? ⟨g,o+k*3,none⟩=some (.slice (some ⟨gh,oh,none⟩) KK c')∧w'.cell? ⟨g,o+k*3+1,none⟩=some y∧w'.cell? ⟨g,o+k*3+2,none⟩=some z∧w'.cell? ⟨ga,oa+k,none⟩=some (.int .i64 x)∧w'.cell? ⟨gh,oh,none⟩=some (.int .i64 h))
      (first|exact ⟨q2,q0,r1,r2,r3,rx,Q3⟩|exact kg.o)
      (((with_reducible refine (zD.o s HM.o _ y z 2 _ zH.o (by omega) (by omega)).mono ?_);rintro e w1 ⟨rfl,hb⟩;have aZ:=aa (ak (Below.refl _ wr).drew hb);have kg:=aa (And.intro (ae hb (show wr.drew.cell? _=_ from q2)) (And.intro (ae hb (show wr.drew.cell? _=_ from q0)) (And.intro (ae hb (show wr.drew.cell? _=_ from r1)) (And.intro (ae hb (show wr.drew.cell? _=_ from r2)) (And.intro (ae hb (show wr.drew.cell? _=_ from r3)) (And.intro (ae hb (show wr.drew.cell? _=_ from rx)) (ae hb (show wr.drew.cell? _=_ from Q3))))))));clear hb;rw[HT.o]))
     go_wp2_with fail;go_ret;exact ⟨aO HF.symm,ak HB aZ⟩
def ee (w:World) (v:Value) (l:List az):Prop:=
 ∃p c,v=.slice p l.length c∧l.length≤c∧c≤maxLen∧∀i x,l[i]?=some x→∃g o,p=some ⟨g,o,none⟩∧w.cell? ⟨g,o+i*2,none⟩=some (.int .i64 x.1)∧w.cell? ⟨g,o+i*2+1,none⟩=some (.int .i64 x.2)
theorem ee.keep {w w':World} {v:Value} {l:List az} (h:ee w v l) (hk:dJ w w'):ee w' v l:=by obtain ⟨p,c,h1,h2,h3,h4⟩:=h;refine ⟨p,c,h1,h2,h3,fun i x hx=>?_⟩;obtain ⟨g,o,e1,e2,e3⟩:=h4 i x hx;exact ⟨g,o,e1,hk _ _ e2,hk _ _ e3⟩
def Gk (l:List az):Prop:=∀x∈l,aP x.1∧aP x.2
theorem tu (l:List az):∀(i:Nat) (x:az),l[i]?=some x→(bN l).flatten[i*2]?=some (.int .i64 x.1)∧(bN l).flatten[i*2+1]?=some (.int .i64 x.2):=by
 induction l with
 |nil=>intro i x h;simp at h
 |cons a l ih=>
  intro i x h;unfold bN Et at ih ⊢;cases i with
  |zero=>simp only[List.getElem?_cons_zero,Option.some.injEq] at h;subst h;exact ⟨rfl,rfl⟩
  |succ i=>rw[List.getElem?_cons_succ] at h;obtain ⟨h1,h2⟩:=ih i x h;simp only[List.map_cons,List.flatten_cons,List.cons_append,List.nil_append];rw[show (i+1)*2=i*2+1+1 by omega,List.getElem?_cons_succ,List.getElem?_cons_succ,List.getElem?_cons_succ,List.getElem?_cons_succ];exact ⟨h1,h2⟩
theorem vR (l:List az):(bN l).flatten.length=l.length*2:=by
 induction l with
 |nil=>rfl
 |cons a l ih=>unfold bN Et at ih ⊢;simp only[List.map_cons,List.flatten_cons,List.cons_append,List.nil_append,List.length_cons,ih];omega
theorem eH {w:World} {B:Nat} {v:Value} {l:List az} (h:w.ownsRow B 82 2 v l.length (bN l).flatten):ee w v l:=by
 rcases aK h with ⟨hv,hn,_⟩|⟨g,cap,hv⟩
 ·exact ⟨none,0,by rw[hv,hn],by omega,by unfold maxLen;omega,fun i x hx=>by rw[List.eq_nil_of_length_eq_zero hn] at hx;simp at hx⟩
 ·subst hv
  obtain ⟨_,_,_,h3,h4,_⟩:=bp h;refine ⟨_,cap,rfl,h3,h4,fun i x hx=>⟨g,0,rfl,?_⟩⟩;obtain ⟨h1,h2⟩:=tu l i x hx;have hi:=(List.getElem?_eq_some_iff.1 hx).1;have hl:=vR l;constructor
  ·have:=bJ h (i*2) (by omega)
   rw[List.getElem?_eq_getElem (by omega)] at h1;rw[Nat.zero_add,this];exact h1
  ·have:=bJ h (i*2+1) (by omega)
   rw[List.getElem?_eq_getElem (by omega)] at h2;rw[Nat.zero_add,this];exact h2
theorem ng (W:World) (B n:Nat) (v:Value) (l:List az) (x y:Int) (hown:W.ownsRow B 82 2 v n (bN l).flatten) (hn:n≤1000000) (hB:B≤W.heap.size) :
 ∃g cap w2,(Builtin.append_ #[76,76] 76 #[v,.slice (some ⟨W.heap.size,0,none⟩) 1 1]).run Tryz.prog (W.alloc (.cells #[.int .i64 x,.int .i64 y] 82))=.ok (.slice (some ⟨g,0,none⟩) (n+1) cap) w2 ∧
  w2.ownsRow B 82 2 (.slice (some ⟨g,0,none⟩) (n+1) cap) (n+1) (bN (l++[(x,y)])).flatten∧Below B W w2:=by
 obtain ⟨i0,iP,hz0,hz1,hz2⟩:=info_parts Gf;obtain ⟨v',w',h1,h2,h3,_⟩:=run_append_own_at (P:=Tryz.prog) (W.alloc (.cells #[.int .i64 x,.int .i64 y] 82)) B 76 76 82 i0 (.agg #[.int .i64 0,.int .i64 0]) 2 16 Tryz.underlying76 iP hz0 hz1 hz2 rfl (by decide) v n _ (hown.alloc _) ⟨W.heap.size,0,none⟩ 1 1 [.int .i64 x,.int .i64 y] rfl zF (by intro u hu;simp only[List.mem_cons,List.not_mem_nil,or_false] at hu;rcases hu with rfl|rfl <;> rfl) (by unfold maxLen;omega) (by omega) (by simp;omega);obtain ⟨g,cap,rfl⟩:=ownsRow_succ h2;refine ⟨g,cap,w',h1,?_,?_⟩
 ·rw[nK];exact h2
 ·exact l5 aH hB hown h3
def bB (l:List Int):List Value:=l.map (.int .i64)
theorem acZ:(Tryz.prog.info? 3).map (fun i=>(i.zero,i.size,i.bytes))=some (some (.int .i64 0),1,8):=by kernel_rfl
theorem qB {w:World} {B:Nat} {v:Value} {l:List Int} (hl:∀x∈l,aP x) (h:w.ownsRow B 3 1 v l.length (bB l)):fD w v l:=by
 rcases aK h with ⟨hv,hn,_⟩|⟨g,cap,hv⟩
 ·exact ⟨none,0,by rw[hv,hn],by omega,by unfold maxLen;omega,fun i x hx=>by rw[List.eq_nil_of_length_eq_zero hn] at hx;simp at hx⟩
 ·subst hv
  obtain ⟨_,_,_,h3,h4,_⟩:=bp h;refine ⟨_,cap,rfl,h3,h4,fun i x hx=>⟨hl x (List.mem_of_getElem? hx),g,0,rfl,?_⟩⟩;have hi:=(List.getElem?_eq_some_iff.1 hx).1;have:=bJ h i (by unfold bB;rw[List.length_map];exact hi);rw[Nat.zero_add,this];unfold bB;rw[List.getElem_map];obtain ⟨_,rfl⟩:=List.getElem?_eq_some_iff.1 hx;rfl
theorem nZ (t:ag):∀ {w:World} {a b c:Value},bw w t a b c→Gk (aB t):=by
 induction t using ag.ind with
 |h ks vs kids ih=>
  intro w a b c h x hx;rw[bD] at h;obtain ⟨⟨_,_,_,_,_,h1⟩,⟨_,_,_,_,_,h2⟩,_,_,_,_,_,h3⟩:=h;simp only[ag.keys,ag.vals,ag.kids] at h1 h2 h3;simp only[aB,List.mem_append] at hx;rcases hx with hx|hx
  ·split at hx
   ·have hm:=List.of_mem_zip (show (x.1,x.2)∈ks.zip vs from hx)
    obtain ⟨i,hi⟩:=List.mem_iff_getElem?.1 hm.1;obtain ⟨j,hj⟩:=List.mem_iff_getElem?.1 hm.2;exact ⟨(h1 i _ hi).1,(h2 j _ hj).1⟩
   ·simp at hx
  ·rw[bZ,List.mem_flatten] at hx
   obtain ⟨q,hq,hx⟩:=hx;rw[List.mem_map] at hq;obtain ⟨s,hs,rfl⟩:=hq;obtain ⟨j,hj⟩:=List.mem_iff_getElem?.1 hs;obtain ⟨g,o,_,_,_,_,_,_,_,e⟩:=h3 j s hj;exact ih s hs e x hx
theorem Ka (t:ag) (a b c:Value) (w:World) (hn:bw w t a b c) (hlen:(aB t).length≤1000000):Calls Tryz.prog 173 #[.agg #[a,b,c]] w fun e w'=>e=.returned (.bool (jT t))∧Bw w w':=by
 have fN:Bw w (w.alloc (.cells #[a,b,c] 73)):=aq;have HN:=aa hn;have HB:=aa fN;have HLEN:=aa hlen;obtain ⟨⟨pa,ca,rfl,_,_,_⟩,⟨pb,cb,rfl,_,_,_⟩,⟨pc,cc,rfl,_,_,_⟩⟩:=bD.1 hn;clear hn fN hlen;go_enter Tryz.func173,Tryz.ntmps173;go_wp2_with fail;refine (QX t _ _ _ 40 _ (HN.keep (af HB)) (by omega) (by omega)).mono ?_;rintro e w1 ⟨rfl,hb⟩;have aZ:=aV HB hb;have aU:=aa (show gT w.heap.size (.slice pa t.keys.length ca) (.slice pb t.vals.length cb) (.slice pc t.kids.length cc) w1 from gT.below ⟨by simp,by simp,by simp⟩ hb);clear hb;obtain ⟨D,hD⟩:=aG (cH t 40);rw[hD];have HD:=aa hD;clear hD;obtain ⟨q0,q1,q2⟩:=aU.o;have hlx:=World.block_lt_of_cell? _ _ q0;by_cases hz:D=0
 ·have HF:=aa (show jT t=false by unfold jT;rw[HD.o];simp[hz])
  have hzb:(D==0)=true:=by simpa using hz
  clear hz;go_wp2_with fail;go_ret;exact ⟨aO HF.symm,aZ⟩
 have hzb:(D==0)=false:=by simpa using hz
 have HZ:=aa hz;clear hz;go_wp2_with fail;refine (Nu t _ _ _ 0 _ (HN.keep (af aZ)) (by omega) (by omega)).mono ?_;rintro e w2 ⟨rfl,hb⟩;have bU:=aV aZ hb;have dY:=aa (aU.below hb);clear hb q0 q1 q2 hlx;obtain ⟨q0,q1,q2⟩:=dY.o;have hlx:=World.block_lt_of_cell? _ _ q0;cases hs:bG t 0 with
 |false=>have HF:=aa (show jT t=false by unfold jT;rw[hs];simp);clear hs;go_wp2_with fail;go_ret;exact ⟨aO HF.symm,bU⟩
 |true=>
  have HS:=aa (show jT t=jD (aB t) by unfold jT;rw[hs,HD.o,decide_eq_true HZ.o];simp);clear hs;go_wp2_with fail;refine (ku t _ _ _ _ (HN.keep (af bU)) HLEN).mono ?_;rintro e w3 ⟨v3,rfl,hrow,hb⟩;obtain ⟨p,cp,rfl,_,hcm,hcs⟩:=eH hrow;have dG:=aV bU hb;have Q5:=aa hcs;obtain ⟨l,hl⟩:=aG (aB t);rw[hl] at Q5 HS ⊢;obtain ⟨N,hN⟩:=aG l.length;rw[hN];have hlc:(N:Int)≤9223372036854775807:=by have:=HLEN.o;rw[hl,hN] at this;omega
  have lz:=aa hN;clear hb hrow hcs hl hN q0 q1 q2 hlx hcm;go_wp2_with fail;go_loopw [4] (fun i wr=>∃k:Nat,(k≤N∨k=1)∧1≤k∧i=.int .i64 k∧(∀(j:Nat) x y,j+1<k→l[j]?=some x→l[j+1]?=some y→x.1<y.1)∧Bw w3 wr) (fun i _=>N+1-(intOf i).toNat)
  case atStart=>exact ⟨1,.inr rfl,aT,rfl,fun j x y hj=>by omega,aH⟩
  case round=>
   obtain ⟨k,hk,Es,rfl,hall,hb⟩:=hrel;have ez:=aa hall;have HB:=aa hb;clear hall hb;by_cases hlt:k<N
   case neg=>
    have fO:¬(k:Int)<(N:Int):=(by omega);have HF:=aa (show jT t=true by
     rw[HS.o,rO];intro j x y hx hy;exact ez j x y (by have:=(List.getElem?_eq_some_iff.1 hy).1;have:=lz.o;omega) hx hy)
    clear hk;go_wp2_with fail;go_ret;exact ⟨aO HF.symm,ak dG HB⟩
   have fO:(k:Int)<(N:Int):=(by omega);obtain ⟨m,hm⟩:∃m,k=m+1:=⟨k-1,by omega⟩
   obtain ⟨x,hx⟩:=fy (l:=l) (k:=m) (by rw[lz.o];omega);obtain ⟨y,hy⟩:=fy (l:=l) (k:=k) (by rw[lz.o];omega);obtain ⟨g,o,rfl,x1,_⟩:=Q5.o m x hx;obtain ⟨g',o',Mo,y1,_⟩:=Q5.o k y hy;cases Mo;have r1:=ae HB x1;have r2:=ae HB y1;have e5:IntKind.i64.wrap ((k:Int)-1)=(m:Int):=by rw[IntKind.wrap_i64];omega
   have e6:(m:Int)<(N:Int):=(by omega);have HX:=aa hx;have HY:=aa hy;have HM:=aa hm;clear hx hy hm x1 y1 hk;by_cases Ci:x.1<y.1
   ·have QE:decide (y.1≤x.1)=false:=by simp;omega
    have HXY:=aa Ci;clear Ci;go_wp2_with fail;go_quiet (fail);go_wp2_with fail;go_roundw
    case rel=>
     refine ⟨k+1,.inl (by omega),by omega,by go_num,fun j x' y' hj jg B1=>?_,ay HB.o _⟩;by_cases e:j+1=k
     ·obtain rfl:j=m:=by have:=HM.o;omega
      rw[HX.o] at jg;rw[e,HY.o] at B1;cases jg;cases B1;exact HXY.o
     ·exact ez j x' y' (by omega) jg B1
    case measure=>simp[intOf];omega
   ·have QE:decide (y.1≤x.1)=true:=by simp;omega
    have XP:y.1≤x.1:=(by omega);have HF:=aa (show jT t=false by
     rw[HS.o,← Bool.not_eq_true,rO];intro h;exact Ci (h m x y HX (by rw[← HM.o];exact HY)))
    clear Ci;go_wp2_with fail;go_quiet (fail);go_wp2_with fail;go_ret;exact ⟨aO HF.symm,ay (ak dG HB) _⟩
def mh (a b:List az):Bool:=decide (a=b)
theorem Gl (x y:List az) (v1 v2:Value) (w:World) (h1:ee w v1 x) (h2:ee w v2 y):Calls Tryz.prog 144 #[v1,v2] w fun e w'=>e=.returned (.bool (mh x y))∧Bw w w':=by
 obtain ⟨p,cp,rfl,a1,a2,ha⟩:=h1;obtain ⟨q,cq,rfl,b1,b2,hb⟩:=h2;have HA:=aa ha;have jr:=aa hb;obtain ⟨N,hN⟩:=aG x.length;obtain ⟨M,hM⟩:=aG y.length;rw[hN] at a1;rw[hM] at b1;rw[hN,hM];have hlc:=fK (n:=N) a2;have hld:=fK (n:=M) b2;have HN:=aa hN;have HM:=aa hM;clear ha hb hN hM a1 a2 b1 b2;by_cases hNM:N=M
 case neg=>
  have hne:((N:Int) != (M:Int))=true:=by rw[bne_iff_ne];omega
  have HF:=aa (show mh x y=false by
   unfold mh;rw[decide_eq_false_iff_not];intro h;exact hNM (by rw[← HN.o,← HM.o,h]))
  clear hNM;go_enter Tryz.func144,Tryz.ntmps144;go_wp2_with fail;go_ret;exact ⟨aO HF.symm,aH⟩
 subst hNM;have hne:((N:Int) != (N:Int))=false:=by simp
 go_enter Tryz.func144,Tryz.ntmps144;go_wp2_with fail;go_loopw [5] (fun i wr=>∃k:Nat,k≤N∧i=.int .i64 k∧(∀(j:Nat),j<k→x[j]?=y[j]?)∧Bw w wr) (fun i _=>N-(intOf i).toNat)
 case atStart=>exact ⟨0,dQ,rfl,fun j hj=>by omega,aH⟩
 case round=>
  obtain ⟨k,hk,rfl,hall,hb⟩:=hrel;have ez:=aa hall;have HB:=aa hb;clear hall hb;by_cases hlt:k<N
  case neg=>
   obtain rfl:k=N:=by omega
   have HF:=aa (show mh x y=true by
    unfold mh;rw[decide_eq_true_eq];apply List.ext_getElem?;intro j;by_cases hj:j<k
    ·exact ez j hj
    ·rw[List.getElem?_eq_none (by rw[HN.o];omega),List.getElem?_eq_none (by rw[HM.o];omega)])
   go_wp2_with fail;go_ret;exact ⟨aO HF.symm,HB⟩
  have fO:(k:Int)<(N:Int):=by omega
  obtain ⟨s,hs⟩:=fy (l:=x) (k:=k) (by rw[HN.o];omega);obtain ⟨t,ht⟩:=fy (l:=y) (k:=k) (by rw[HM.o];omega);obtain ⟨g,o,rfl,x1,x2⟩:=HA.o k s hs;obtain ⟨g',o',rfl,y1,y2⟩:=jr.o k t ht;have r1:=ae HB x1;have r2:=ae HB x2;have r3:=ae HB y1;have r4:=ae HB y2;have HS:=aa hs;have HT:=aa ht;clear hs ht x1 x2 y1 y2;by_cases hst:s=t
  ·subst hst
   have b1:(s.1==s.1)=true:=(by simp);have b2:(s.2==s.2)=true:=by simp
   go_wp2_with fail;go_quiet (fail);go_wp2_with fail;go_roundw
   case rel=>
    refine ⟨k+1,by omega,by go_num,fun j hj=>?_,ay HB.o _⟩;by_cases e:j=k
    ·subst e;rw[HS.o,HT.o]
    ·exact ez j (by omega)
   case measure=>simp[intOf];omega
  ·have HF:=aa (show mh x y=false by
    unfold mh;rw[decide_eq_false_iff_not];intro h;subst h;exact hst (by have:=HS.o;rw[HT.o] at this;injection this with this;exact this.symm))
   have hc:((s.1==t.1)=false)∨((s.1==t.1)=true∧(s.2==t.2)=false):=by
    by_cases e1:s.1=t.1
    ·by_cases e2:s.2=t.2
     ·exact absurd (Prod.ext e1 e2) hst
     ·exact .inr ⟨by simpa using e1,by simpa using e2⟩
    ·exact .inl (by simpa using e1)
   clear hst;rcases hc with h1|⟨h1,h2⟩
   all_goals
    go_wp2_with fail;go_quiet (fail);go_wp2_with fail;go_ret;exact ⟨aO HF.symm,ay HB _⟩
def kh (l:List az) (k:Int):Int×Bool:=match l.find? (fun x=>x.1==k) with
 |some x=>(x.2,true)
 |none=>(0,false)
theorem zI (x:List az) (q:Int) (v1:Value) (w:World) (h1:ee w v1 x):Calls Tryz.prog 87 #[v1,.int .i64 q] w fun e w'=>e=.returned (.tuple #[.int .i64 (kh x q).1,.bool (kh x q).2])∧w=w':=by
 obtain ⟨p,cp,rfl,a1,a2,ha⟩:=h1;have HA:=aa ha;obtain ⟨N,hN⟩:=aG x.length;rw[hN] at a1;rw[hN];have hlc:=fK (n:=N) a2;have HN:=aa hN;clear ha hN a1 a2;go_enter Tryz.func87,Tryz.ntmps87;go_wp2_with fail;go_loop [6] (fun i=>∃k:Nat,k≤N∧i=.int .i64 k∧kh x q=kh (x.drop k) q) (fun i=>N-(intOf i).toNat)
 case atStart=>exact ⟨0,dQ,rfl,by rw[List.drop_zero]⟩
 case round=>
  obtain ⟨k,hk,rfl,hall⟩:=hrel;have ez:=aa hall;clear hall;by_cases hlt:k<N
  case neg=>
   obtain rfl:k=N:=by omega
   have HF:=aa (show kh x q=(0,false) by rw[ez.o,List.drop_of_length_le (by rw[HN.o];omega)];rfl);go_wp2_with fail;go_ret2;rw[HF.o];exact ⟨rfl,rfl⟩
  have fO:(k:Int)<(N:Int):=by omega
  obtain ⟨s,hs⟩:=fy (l:=x) (k:=k) (by rw[HN.o];omega);obtain ⟨g,o,rfl,x1,x2⟩:=HA.o k s hs;have hd:x.drop k=s::x.drop (k+1):=by obtain ⟨hk2,hx⟩:=List.getElem?_eq_some_iff.1 hs;rw[List.drop_eq_getElem_cons hk2,hx]
  have HD:=aa hd;clear hs hd;by_cases Ex:s.1=q
  ·have hb:(s.1==q)=true:=by simpa using Ex
   have HF:=aa (show kh x q=(s.2,true) by rw[ez.o,HD.o];unfold kh;rw[List.find?_cons_of_pos (p:=fun x:az=>x.1==q) hb]);clear Ex;go_wp2_with fail;go_ret2;rw[HF.o];exact ⟨rfl,rfl⟩
  ·have hb:(s.1==q)=false:=by simpa using Ex
   have HF:=aa (show kh x q=kh (x.drop (k+1)) q by rw[ez.o,HD.o];unfold kh;rw[List.find?_cons_of_neg (p:=fun x:az=>x.1==q) (by simpa using Ex)]);clear Ex;go_wp2_with fail;go_round
   case rel=>exact ⟨k+1,by omega,by go_num,HF.o⟩
   case measure=>simp[intOf];omega
def fE:List az→Int→Int→Bool→List az
 |[],k,v,laid=>if laid then [] else [(k,v)]
 |x::l,k,v,laid=>(if laid=false∧k≤x.1 then [(k,v)] else [])++(if x.1=k then [] else [x])++fE l k v (laid || decide (k≤x.1))
theorem og (x:az) (l:List az) (k v:Int) (laid:Bool):fE (x::l) k v laid=(if laid=false∧k≤x.1 then [(k,v)] else [])++(if x.1=k then [] else [x])++fE l k v (laid || decide (k≤x.1)):=by simp only[fE]
theorem qC:∀(l:List az) (k v:Int) (laid:Bool),(fE l k v laid).length≤l.length+(if laid then 0 else 1)
 |[],k,v,laid=>by cases laid <;> simp[fE]
 |x::l,k,v,laid=>by
  have:=qC l k v (laid || decide (k≤x.1));simp only[fE,List.length_append,List.length_cons];cases laid
  ·by_cases h:k≤x.1
   ·by_cases e:x.1=k
    ·simp[e] at this ⊢;omega
    ·simp[h,e] at this ⊢;omega
   ·by_cases e:x.1=k
    ·omega
    ·simp[h,e] at this ⊢;omega
  ·by_cases e:x.1=k
   ·simp[e] at this ⊢;omega
   ·simp[e] at this ⊢;omega
theorem zJ (x:List az) (q u:Int) (v1:Value) (w:World) (h1:ee w v1 x) (hlen:x.length≤900000):Calls Tryz.prog 88 #[v1,.int .i64 q,.int .i64 u] w fun e w'=>∃v',e=.returned v'∧w'.ownsRow w.heap.size 82 2 v' (fE x q u false).length (bN (fE x q u false)).flatten∧Bw w w':=by
 obtain ⟨p,cp,rfl,a1,a2,ha⟩:=h1;have HA:=aa ha;obtain ⟨N,hN⟩:=aG x.length;rw[hN] at a1 hlen;rw[hN];have hlc:(N:Int)≤900000:=by omega
 have HN:=aa hN;clear ha hN a1 a2 hlen;go_enter Tryz.func88,Tryz.ntmps88;go_wp2_with fail;go_loopw [7,8,9] (fun v lb i wr=>∃(k:Nat) (laid:Bool) (done:List az),k≤N∧i=.int .i64 k∧lb=.bool laid∧fE x q u false=done++fE (x.drop k) q u laid∧done.length≤N+1∧wr.ownsRow w.heap.size 82 2 v done.length (bN done).flatten∧Bw w wr) (fun _ _ i _=>N-(intOf i).toNat)
 case atStart=>
  refine ⟨0,false,[],dQ,rfl,rfl,by rw[List.drop_zero];rfl,by simp,?_,aq⟩;have:=World.ownsRow_made w #[] 0 (base:=w.heap.size) (e:=82) (size:=2) aT (by unfold maxLen;omega) rfl
  simpa [bN] using this
 case round=>
  obtain ⟨k,laid,done,hk,rfl,rfl,hput,xE,hown,hb⟩:=hrel;have HP:=aa hput;have HB:=aa hb;have HO:=aa hown;clear hput hb hown;by_cases hlt:k<N
  case neg=>
   obtain rfl:k=N:=by omega
   have HD:=aa (show x.drop k=[] from List.drop_of_length_le (by rw[HN.o];omega));cases laid with
   |true=>have HF:=aa (show fE x q u false=done by rw[HP.o,HD.o];simp[fE]);go_wp2_with fail;go_ret;refine ⟨_,rfl,?_,HB⟩;rw[HF.o];exact HO.o
   |false=>have HF:=aa (show fE x q u false=done++[(q,u)] by rw[HP.o,HD.o];simp[fE]);obtain ⟨g1,c1,w2,hrun,hown2,hb2⟩:=ng wr w.heap.size _ _ done q u HO (by omega) HB.size;have HR:=aa hrun;have nM:=aa hown2;have bU:=aa (HB.trans (hb2));clear hrun hown2 hb2;go_wp2_with (at_builtin;refine Lib.wpList_append_run _ rfl _ _ _ _ rfl _ _ rfl rfl _ _ HR.o ?_);go_ret;refine ⟨_,rfl,?_,bU⟩;rw[HF.o,List.length_append];exact nM.o
  have fO:(k:Int)<(N:Int):=by omega
  obtain ⟨s,hs⟩:=fy (l:=x) (k:=k) (by rw[HN.o];omega);obtain ⟨g,o,rfl,x1,x2⟩:=HA.o k s hs;have r1:=ae HB x1;have r2:=ae HB x2;have hd:x.drop k=s::x.drop (k+1):=by obtain ⟨hk2,hx⟩:=List.getElem?_eq_some_iff.1 hs;rw[List.drop_eq_getElem_cons hk2,hx]
  have uG:=HP.o;rw[hd,og] at uG;have om:=aa (show done.length+((if laid=false∧q≤s.1 then [(q,u)] else [])++(if s.1=q then [] else [s]):List az).length≤N+1 by
   have h1:=qC x q u false;have h2:=HN.o;rw[uG] at h1;simp only[List.length_append,Bool.false_eq_true,if_false] at h1 ⊢;omega)
  have pT:=aa uG;have aU:=aa x1;have dY:=aa x2;clear hs hd uG x1 x2;by_cases tA:laid=false∧q≤s.1
  ·obtain ⟨rfl,hq⟩:=tA
   have B3:decide (q≤s.1)=true:=decide_eq_true hq;obtain ⟨g1,c1,w2,hrun,hown2,hb2⟩:=ng wr w.heap.size _ _ done q u HO (by omega) HB.size;have HR:=aa hrun;have nM:=aa hown2;have bU:=aa (HB.trans (hb2));have r3:=ae bU aU.o;have r4:=ae bU dY.o;have HQ:=aa hq;clear hrun hown2 hb2 hq;by_cases he:s.1=q
   ·have YY:(s.1 != q)=false:=by rw[he];simp
    have HF:=aa (show fE x q u false=(done++[(q,u)])++fE (x.drop (k+1)) q u true by
     rw[pT.o,if_pos ⟨rfl,HQ⟩,if_pos he,decide_eq_true HQ.o];simp)
    have nW:=aa (show (done++[(q,u)]).length≤N+1 by have:=om.o;rw[if_pos ⟨rfl,HQ⟩,if_pos he] at this;simpa using this);clear he;go_wp2_with (at_builtin;refine Lib.wpList_append_run _ rfl _ _ _ _ rfl _ _ rfl rfl _ _ HR.o ?_);go_roundw
    case rel=>refine ⟨k+1,true,done++[(q,u)],by omega,by go_num,rfl,HF.o,nW.o,?_,bU.o⟩;rw[List.length_append];exact nM.o
    case measure=>simp[intOf];omega
   ·have YY:(s.1 != q)=true:=by rw[bne_iff_ne];exact he
    have HF:=aa (show fE x q u false=((done++[(q,u)])++[(s.1,s.2)])++fE (x.drop (k+1)) q u true by
     rw[pT.o,if_pos ⟨rfl,HQ⟩,if_neg he,decide_eq_true HQ.o];simp)
    have nW:=aa (show ((done++[(q,u)])++[(s.1,s.2)]).length≤N+1 by have:=om.o;rw[if_pos ⟨rfl,HQ⟩,if_neg he] at this;simp at this ⊢;omega);obtain ⟨g2,c2,w3,hrun,mm,hb3⟩:=ng w2 w.heap.size _ _ (done++[(q,u)]) s.1 s.2 nM (by omega) bU.size;have js:=aa hrun;have qD:=aa mm;have dG:=aa (bU.trans hb3);clear he hrun mm hb3;go_wp2_with (first|(at_builtin;refine Lib.wpList_append_run _ rfl (.tmp 28) (.tmp 32) _ _ rfl _ _ rfl rfl _ _ HR.o ?_)|(at_builtin;refine Lib.wpList_append_run _ rfl (.tmp 41) (.tmp 46) _ _ rfl _ _ rfl rfl _ _ js.o ?_));go_roundw
    case rel=>refine ⟨k+1,true,(done++[(q,u)])++[(s.1,s.2)],by omega,by go_num,rfl,HF.o,nW.o,?_,dG.o⟩;rw[List.length_append,List.length_append];exact qD.o
    case measure=>simp[intOf];omega
  ·have HI:=aa tA
   have bU:=HB;have nM:=HO;have hc:laid=true∨(laid=false∧decide (q≤s.1)=false):=by
    cases laid
    ·exact .inr ⟨rfl,decide_eq_false fun h=>tA ⟨rfl,h⟩⟩
    ·exact .inl rfl
   have HL:=aa (show (laid || decide (q≤s.1))=laid by rcases hc with rfl|⟨rfl,h⟩ <;> simp[*]);clear tA;by_cases he:s.1=q
   ·have YY:(s.1 != q)=false:=by rw[he];simp
    have HF:=aa (show fE x q u false=done++fE (x.drop (k+1)) q u laid by
     rw[pT.o,if_neg HI.o,if_pos he,HL.o];simp)
    clear he;rcases hc with rfl|⟨rfl,hq⟩
    all_goals
     go_wp2_with fail;go_roundw
     case rel=>exact ⟨k+1,_,done,by omega,by go_num,rfl,HF.o,xE,HO.o,HB.o⟩
     case measure=>simp[intOf];omega
   ·have YY:(s.1 != q)=true:=by rw[bne_iff_ne];exact he
    have HF:=aa (show fE x q u false=(done++[(s.1,s.2)])++fE (x.drop (k+1)) q u laid by
     rw[pT.o,if_neg HI.o,if_neg he,HL.o];simp)
    have nW:=aa (show (done++[(s.1,s.2)]).length≤N+1 by have:=om.o;rw[if_neg HI.o,if_neg he] at this;simpa using this);obtain ⟨g2,c2,w3,hrun,mm,hb3⟩:=ng wr w.heap.size _ _ done s.1 s.2 HO (by omega) HB.size;have js:=aa hrun;have qD:=aa mm;have dG:=aa (HB.trans hb3);clear he hrun mm hb3;rcases hc with rfl|⟨rfl,hq⟩
    all_goals
     go_wp2_with (at_builtin;refine Lib.wpList_append_run _ rfl _ _ _ _ rfl _ _ rfl rfl _ _ js.o ?_;clear js);go_roundw
     case rel=>refine ⟨k+1,_,done++[(s.1,s.2)],by omega,by go_num,rfl,HF.o,nW.o,?_,dG.o⟩;rw[List.length_append];exact qD.o
     case measure=>simp[intOf];omega
def inB (x:az) (f t:Int):Bool:=decide (f≤x.1)&&decide (x.1<t)
def bQ (n:Int):Int:=if n≤0 then 0 else (n-1)/32+1
structure aA where
 chunk:Int
 pos:Int
 size:Int
 packed:Bool
deriving DecidableEq
def aA.agg (x:aA):Value:=.agg #[.int .i64 x.chunk,.int .i64 x.pos,.int .i64 x.size,.bool x.packed]
def aA.zero:aA:=⟨0,0,0,false⟩
def cE (x:aA):Bool:=decide (0≤x.chunk∧x.chunk≤999∧1≤x.size∧x.size≤256∧0≤x.pos∧x.pos+bQ x.size≤16∧(x.packed=true∨x.size=256))
def bM (n:Int):aA:=⟨n/2/257/16,n/2/257%16,n/2%257,n%2==1⟩
def sD (n:Int):Bool:=decide (0≤n)&&cE (bM n)
def kx (x:aA):Int:=2*(257*(16*x.chunk+x.pos)+x.size)+if x.packed then 1 else 0
theorem gD {n:Int} (h0:1≤n) (h:n≤256):1≤bQ n∧bQ n≤8:=by unfold bQ;rw[if_neg (by omega)];omega
theorem bz (x:aA):cE x=true↔0≤x.chunk∧x.chunk≤999∧1≤x.size∧x.size≤256∧0≤x.pos∧x.pos+bQ x.size≤16∧(x.packed=true∨x.size=256):=by unfold cE;simp
theorem vS (x:aA):cE x=false↔¬(0≤x.chunk∧x.chunk≤999∧1≤x.size∧x.size≤256∧0≤x.pos∧x.pos+bQ x.size≤16∧(x.packed=true∨x.size=256)):=by rw[← bz];simp
theorem CM {n:Int} (_h:0≤n):kx (bM n)=n:=by
 unfold kx bM;simp only;by_cases hp:n%2=1
 ·rw[if_pos (by simpa using hp)];omega
 ·rw[if_neg (by simpa using hp)];omega
theorem CN {n:Int} (_h:0≤n):bM n=⟨n/8224,n/514%16,n/2%257,n%2==1⟩:=by unfold bM;congr 1 <;> omega
theorem qE {a b:Bool} (h:a=b):Ending.returned (.bool a)=.returned (.bool b):=by rw[h]
theorem xF {a b:Int} (h:a=b):Ending.returned (.int .i64 a)=.returned (.int .i64 b):=by rw[h]
theorem Gm (n:Int) (h0 : -1000000≤n) (h1:n≤1000000) (w:World):Calls Tryz.prog 79 #[.int .i64 n] w fun e w'=>e=.returned (.int .i64 (bQ n))∧w=w':=by
 by_cases h:n≤0
 ·have HS:=aa (show bQ n=0 by unfold bQ;rw[if_pos h])
  go_enter Tryz.func79,Tryz.ntmps79;go_wp2_with fail;go_ret;exact ⟨xF HS.symm,rfl⟩
 ·have HS:=aa (show bQ n=(n-1)/32+1 by unfold bQ;rw[if_neg h])
  go_enter Tryz.func79,Tryz.ntmps79;go_wp2_with fail;go_ret;exact ⟨xF HS.symm,rfl⟩
theorem Vg (x:aA) (h0 : -1000000≤x.size) (h1:x.size≤1000000) (w:World):Calls Tryz.prog 29 #[x.agg] w fun e w'=>e=.returned (.int .i64 (bQ x.size))∧Bw w w':=by obtain ⟨c,p,s,b⟩:=x;simp only[aA.agg];simp only at h0 h1;go_enter Tryz.func29,Tryz.ntmps29;go_wp2_with fail;refine (Gm s h0 h1 _).mono ?_;rintro e w1 ⟨rfl,rfl⟩;go_wp2_with fail;go_ret;exact ⟨rfl,aq⟩
theorem xG (c p s L:Int) (b:Bool) (h0 : -1000000≤s) (h1:s≤1000000) (hL:bQ s=L) (w:World):Calls Tryz.prog 29 #[.agg #[.int .i64 c,.int .i64 p,.int .i64 s,.bool b]] w fun e w'=>e=.returned (.int .i64 L)∧Bw w w':=by subst hL;exact Vg ⟨c,p,s,b⟩ h0 h1 w
def kY (g:Nat) (c p s:Int) (b:Bool) (w:World):Prop:=w.cell? ⟨g,0,none⟩=some (.int .i64 c)∧w.cell? ⟨g,1,none⟩=some (.int .i64 p)∧w.cell? ⟨g,2,none⟩=some (.int .i64 s)∧w.cell? ⟨g,3,none⟩=some (.bool b)
theorem eO {W W':World} (hb:Bw W W') {a:Addr} {v:Value} (h:W.cell? a=some v):W'.cell? a=some v:=(hb.cell (World.block_lt_of_cell? W _ h)).trans h
theorem kY.below {g:Nat} {c p s:Int} {b:Bool} {w w':World} (h:kY g c p s b w) (hb:Bw w w'):kY g c p s b w':=⟨eO hb h.1,eO hb h.2.1,eO hb h.2.2.1,eO hb h.2.2.2⟩
theorem oV (x:aA) (w:World):Calls Tryz.prog 80 #[x.agg] w fun e w'=>e=.returned (.bool (cE x))∧Bw w w':=by
 obtain ⟨c,p,s,b⟩:=x;simp only[aA.agg];have hb1:Bw w (w.alloc (.cells #[.int .i64 c,.int .i64 p,.int .i64 s,.bool b] 50)):=aq;have HB:=aa hb1;clear hb1;by_cases h1:0≤c∧c≤999∧1≤s∧s≤256
 case neg=>
  have HF:=aa (show cE ⟨c,p,s,b⟩=false from (vS _).2 (fun h=>h1 ⟨h.1,h.2.1,h.2.2.1,h.2.2.2.1⟩));have hc:c<0∨(¬c<0∧1000≤c)∨(¬c<0∧¬1000≤c∧s<1)∨(¬c<0∧¬1000≤c∧¬s<1∧256<s):=by omega
  clear h1;rcases hc with g1|⟨g1,g2⟩|⟨g1,g2,g3⟩|⟨g1,g2,g3,g4⟩
  all_goals
   go_enter Tryz.func80,Tryz.ntmps80;go_wp2_with fail;go_ret;exact ⟨qE HF.symm,HB⟩
 obtain ⟨k1,k2,k3,k4⟩:=h1;have g1:¬c<0:=by omega
 have g2:¬1000≤c:=by omega
 have g3:¬s<1:=by omega
 have g4:¬256<s:=by omega
 have Q6:=gD k3 k4;by_cases h5:p<0
 ·have HF:=aa (show cE ⟨c,p,s,b⟩=false from (vS _).2 (fun h=>by have:=h.2.2.2.2.1;simp only at this;omega))
  have d5:decide (p<0)=true:=by simpa using h5
  go_enter Tryz.func80,Tryz.ntmps80;go_wp2_with fail;go_quiet (fail);go_wp2_with fail;go_ret;exact ⟨qE HF.symm,ay HB _⟩
 have d5:decide (p<0)=false:=by simpa using h5
 have hlr:w.heap.size<(w.alloc (.cells #[.int .i64 c,.int .i64 p,.int .i64 s,.bool b] 50)).heap.size:=by simp
 obtain ⟨W1,hW1⟩:=aG (w.alloc (.cells #[.int .i64 c,.int .i64 p,.int .i64 s,.bool b] 50));have HC:=aa (show kY w.heap.size c p s b W1 by rw[← hW1];exact ⟨by simp,by simp,by simp,by simp⟩);rw[hW1] at HB hlr;obtain ⟨q0,q1,q2,q3⟩:=HC.o;have oq:(16<p+bQ s)∨(p+bQ s≤16∧b=true)∨(p+bQ s≤16∧b=false∧s=256)∨(p+bQ s≤16∧b=false∧(s==256)=false):=by
  by_cases hx:16<p+bQ s
  ·exact .inl hx
  ·cases b
   ·by_cases hs:s=256
    ·exact .inr (.inr (.inl ⟨by omega,rfl,hs⟩))
    ·exact .inr (.inr (.inr ⟨by omega,rfl,by simpa using hs⟩))
   ·exact .inr (.inl ⟨by omega,rfl⟩)
 have HV:Hid (cE ⟨c,p,s,b⟩=true↔p+bQ s≤16∧(b=true∨s=256)):=by rw[Hid,bz];simp only;exact ⟨fun h=>⟨h.2.2.2.2.2.1,h.2.2.2.2.2.2⟩,fun h=>⟨k1,k2,k3,k4,by omega,h.1,h.2⟩⟩
 obtain ⟨L,hL⟩:=aG (bQ s);rw[hL] at oq Q6 HV;have ou:=aa hL;clear hL;have hwr:IntKind.i64.wrap (16-L)=16-L:=IntWalk.i64_in _ (by omega);rcases oq with h|⟨h,rfl⟩|⟨h,rfl,rfl⟩|⟨h,rfl,hse⟩
 ·have hd:decide (16-L<p)=true:=by simp;omega
  go_enter Tryz.func80,Tryz.ntmps80;go_upto_region 3 with fail;go_region_held3 (fun w'=>w'.cell? ⟨w.heap.size,0,none⟩=some (.int .i64 c)∧w'.cell? ⟨w.heap.size,1,none⟩=some (.int .i64 p)∧w'.cell? ⟨w.heap.size,2,none⟩=some (.int .i64 s)∧w'.cell? ⟨w.heap.size,3,none⟩=some (.bool b))
   (first|exact tB.o|exact HC.o)
   (first|(go_at_call 29;refine (xG c p s _ b (by omega) (by omega) ou.o _).mono ?_;rintro e w2 ⟨rfl,hb⟩;have tB:=aa (kY.below (show kY w.heap.size c p s b W1.drew from HC.o) hb);have aZ:=aa (ak HB.o.drew hb);clear hb))
  go_wp2_with fail;go_ret;refine ⟨qE ?_,aZ⟩;symm;rw[← Bool.not_eq_true,HV.o];omega
 ·have hd:decide (16-L<p)=false:=by simp;omega
  go_enter Tryz.func80,Tryz.ntmps80;go_upto_region 3 with fail;go_region_held3 (fun w'=>w'.cell? ⟨w.heap.size,0,none⟩=some (.int .i64 c)∧w'.cell? ⟨w.heap.size,1,none⟩=some (.int .i64 p)∧w'.cell? ⟨w.heap.size,2,none⟩=some (.int .i64 s)∧w'.cell? ⟨w.heap.size,3,none⟩=some (.bool true))
   (first|exact tB.o|exact HC.o)
   (first|(go_at_call 29;refine (xG c p s _ true (by omega) (by omega) ou.o _).mono ?_;rintro e w2 ⟨rfl,hb⟩;have tB:=aa (kY.below (show kY w.heap.size c p s true W1.drew from HC.o) hb);have aZ:=aa (ak HB.o.drew hb);clear hb))
  go_wp2_with fail;go_ret;exact ⟨qE ((HV).2 ⟨by omega,by simp⟩).symm,aZ⟩
 ·have hd:decide (16-L<p)=false:=by simp;omega
  go_enter Tryz.func80,Tryz.ntmps80;go_upto_region 3 with fail;go_region_held3 (fun w'=>w'.cell? ⟨w.heap.size,0,none⟩=some (.int .i64 c)∧w'.cell? ⟨w.heap.size,1,none⟩=some (.int .i64 p)∧w'.cell? ⟨w.heap.size,2,none⟩=some (.int .i64 256)∧w'.cell? ⟨w.heap.size,3,none⟩=some (.bool false))
   (first|exact tB.o|exact HC.o)
   (first|(go_at_call 29;refine (xG c p 256 _ false (by omega) (by omega) ou.o _).mono ?_;rintro e w2 ⟨rfl,hb⟩;have tB:=aa (kY.below (show kY w.heap.size c p 256 false W1.drew from HC.o) hb);have aZ:=aa (ak HB.o.drew hb);clear hb))
  go_wp2_with fail;go_ret;exact ⟨qE ((HV).2 ⟨by omega,by simp⟩).symm,aZ⟩
 ·have hd:decide (16-L<p)=false:=by simp;omega
  go_enter Tryz.func80,Tryz.ntmps80;go_upto_region 3 with fail;go_region_held3 (fun w'=>w'.cell? ⟨w.heap.size,0,none⟩=some (.int .i64 c)∧w'.cell? ⟨w.heap.size,1,none⟩=some (.int .i64 p)∧w'.cell? ⟨w.heap.size,2,none⟩=some (.int .i64 s)∧w'.cell? ⟨w.heap.size,3,none⟩=some (.bool false))
   (first|exact tB.o|exact HC.o)
   (first|(go_at_call 29;refine (xG c p s _ false (by omega) (by omega) ou.o _).mono ?_;rintro e w2 ⟨rfl,hb⟩;have tB:=aa (kY.below (show kY w.heap.size c p s false W1.drew from HC.o) hb);have aZ:=aa (ak HB.o.drew hb);clear hb))
  go_wp2_with fail;go_ret;refine ⟨qE ?_,aZ⟩;symm;rw[← Bool.not_eq_true,HV.o];intro hq;rcases hq.2 with B3|B3;cases B3;subst B3;simp at hse
def Kb (n:Int):aA:=if sD n=true then bM n else aA.zero
theorem vT (n:Int) (_h1 : -9223372036854775808≤n) (h2:n≤9223372036854775807) (w:World):Calls Tryz.prog 75 #[.int .i64 n] w fun e w'=>e=.returned (.tuple #[(Kb n).agg,.bool (sD n)])∧Bw w w':=by
 by_cases h0:n<0
 ·have HF:=aa (show sD n=false by unfold sD;simp;omega)
  go_enter Tryz.func75,Tryz.ntmps75;go_wp2_with fail;refine bodyPost_ret (v:=.tuple #[aA.zero.agg,.bool false]) (by simp[results,Tryz.results75,go_sem,aA.agg,aA.zero]) rfl ⟨by unfold Kb;rw[HF.o];rfl,aq⟩
 have Cj:0≤n:=by omega
 obtain ⟨b,hb⟩:=aG (cE (bM n));have JN:=aa (show sD n=b by unfold sD;rw[hb];simp;intro _;omega);have HR:=aa hb;clear hb;go_enter Tryz.func75,Tryz.ntmps75;go_wp2_with fail;refine (oV (bM n) _).mono ?_;rintro e w1 ⟨rfl,hb⟩;rw[HR.o];have q0:w1.cell? ⟨w.heap.size,0,none⟩=some (.int .i64 0):=eO hb (by simp);have q1:w1.cell? ⟨w.heap.size,1,none⟩=some (.int .i64 0):=eO hb (by simp);have q2:w1.cell? ⟨w.heap.size,2,none⟩=some (.int .i64 0):=eO hb (by simp);have q3:w1.cell? ⟨w.heap.size,3,none⟩=some (.bool false):=eO hb (by simp);have p0:w1.cell? ⟨w.heap.size+1,0,none⟩=some (.int .i64 (n/2/257/16)):=eO hb (by simp);have p1:w1.cell? ⟨w.heap.size+1,1,none⟩=some (.int .i64 (n/2/257%16)):=eO hb (by simp);have p2:w1.cell? ⟨w.heap.size+1,2,none⟩=some (.int .i64 (n/2%257)):=eO hb (by simp);have p3:w1.cell? ⟨w.heap.size+1,3,none⟩=some (.bool (n%2==1)):=eO hb (by simp);have f0:w1.frozen? ⟨w.heap.size,0,none⟩=false:=(hb.frozen (p:=⟨w.heap.size,0,none⟩) (by simp;omega)).trans (by simp);have f1:w1.frozen? ⟨w.heap.size,1,none⟩=false:=(hb.frozen (p:=⟨w.heap.size,1,none⟩) (by simp;omega)).trans (by simp);have f2:w1.frozen? ⟨w.heap.size,2,none⟩=false:=(hb.frozen (p:=⟨w.heap.size,2,none⟩) (by simp;omega)).trans (by simp);have f3:w1.frozen? ⟨w.heap.size,3,none⟩=false:=(hb.frozen (p:=⟨w.heap.size,3,none⟩) (by simp;omega)).trans (by simp);have hl:w.heap.size+1<w1.heap.size:=by have:=hb.size;simp at this;omega
 have HB:=aa (ak (((Below.refl w.heap.size w).alloc aT _).alloc (by simp) _) hb);clear hb;cases b
 ·go_wp2_with fail
  refine bodyPost_ret (v:=.tuple #[aA.zero.agg,.bool false]) (by simp[results,Tryz.results75,go_sem,aA.agg,aA.zero,q0,q1,q2,q3];try omega) rfl ⟨by unfold Kb;rw[JN.o];rfl,?_⟩;exact (((HB.o.setCell aT _).setCell aT _).setCell aT _).setCell aT _
 ·go_wp2_with fail
  refine bodyPost_ret (v:=.tuple #[(bM n).agg,.bool true]) (by simp[results,Tryz.results75,go_sem,aA.agg,bM,q0,q1,q2,q3];try omega) rfl ⟨by unfold Kb;rw[JN.o];rfl,?_⟩;exact (((HB.o.setCell aT _).setCell aT _).setCell aT _).setCell aT _
theorem uH (n:Int) (h0 : -1000000≤n) (h1:n≤1000000) (w:World):Calls Tryz.prog 91 #[.int .i64 n] w fun e w'=>e=.returned (.int .i64 (bQ n))∧w=w':=by
 by_cases h:n≤0
 ·have HS:=aa (show bQ n=0 by unfold bQ;rw[if_pos h])
  go_enter Tryz.func91,Tryz.ntmps91;go_wp2_with fail;go_ret;exact ⟨xF HS.symm,rfl⟩
 ·have HS:=aa (show bQ n=(n-1)/32+1 by unfold bQ;rw[if_neg h])
  go_enter Tryz.func91,Tryz.ntmps91;go_wp2_with fail;go_ret;exact ⟨xF HS.symm,rfl⟩
theorem tC (c p s L:Int) (b:Bool) (h0 : -1000000≤s) (h1:s≤1000000) (hL:bQ s=L) (w:World):Calls Tryz.prog 38 #[.agg #[.int .i64 c,.int .i64 p,.int .i64 s,.bool b]] w fun e w'=>e=.returned (.int .i64 L)∧Bw w w':=by subst hL;go_enter Tryz.func38,Tryz.ntmps38;go_wp2_with fail;refine (uH s h0 h1 _).mono ?_;rintro e w1 ⟨rfl,rfl⟩;go_wp2_with fail;go_ret;exact ⟨rfl,aq⟩
theorem xH (x:aA) (w:World):Calls Tryz.prog 97 #[x.agg] w fun e w'=>e=.returned (.bool (cE x))∧Bw w w':=by
 obtain ⟨c,p,s,b⟩:=x;simp only[aA.agg];have hb1:Bw w (w.alloc (.cells #[.int .i64 c,.int .i64 p,.int .i64 s,.bool b] 50)):=aq;have HB:=aa hb1;clear hb1;by_cases h1:0≤c∧c≤999∧1≤s∧s≤256∧0≤p∧p≤16
 case neg=>
  have HF:=aa (show cE ⟨c,p,s,b⟩=false from (vS _).2 (fun h=>h1 ⟨h.1,h.2.1,h.2.2.1,h.2.2.2.1,h.2.2.2.2.1,by have h3:=gD h.2.2.1 h.2.2.2.1;have h4:=h.2.2.2.2.2.1;simp only at h3 h4;omega⟩));have hc:(decide (c<0)=true)∨(decide (c<0)=false∧decide (999<c)=true)∨(decide (c<0)=false∧decide (999<c)=false∧decide (s<1)=true)∨(decide (c<0)=false∧decide (999<c)=false∧decide (s<1)=false∧decide (256<s)=true)∨(decide (c<0)=false∧decide (999<c)=false∧decide (s<1)=false∧decide (256<s)=false∧decide (p<0)=true)∨(decide (c<0)=false∧decide (999<c)=false∧decide (s<1)=false∧decide (256<s)=false∧decide (p<0)=false∧decide (16<p)=true):=by simp only[decide_eq_true_eq,decide_eq_false_iff_not];omega
  clear h1;rcases hc with g0|⟨g0,g1⟩|⟨g0,g1,g2⟩|⟨g0,g1,g2,g3⟩|⟨g0,g1,g2,g3,g4⟩|⟨g0,g1,g2,g3,g4,g5⟩
  all_goals
   go_enter Tryz.func97,Tryz.ntmps97;go_wp2_with fail;go_quiet (fail);go_wp2_with fail;go_ret;exact ⟨qE HF.symm,ay HB _⟩
 obtain ⟨k1,k2,k3,k4,k5,k6⟩:=h1;have g0:decide (c<0)=false:=by simp;omega
 have g1:decide (999<c)=false:=by simp;omega
 have g2:decide (s<1)=false:=by simp;omega
 have g3:decide (256<s)=false:=by simp;omega
 have g4:decide (p<0)=false:=by simp;omega
 have g5:decide (16<p)=false:=by simp;omega
 have Q6:=gD k3 k4;have hlr:w.heap.size<(w.alloc (.cells #[.int .i64 c,.int .i64 p,.int .i64 s,.bool b] 50)).heap.size:=by simp
 obtain ⟨W1,hW1⟩:=aG (w.alloc (.cells #[.int .i64 c,.int .i64 p,.int .i64 s,.bool b] 50));have HC:=aa (show kY w.heap.size c p s b W1 by rw[← hW1];exact ⟨by simp,by simp,by simp,by simp⟩);rw[hW1] at HB hlr;obtain ⟨q0,q1,q2,q3⟩:=HC.o;have oq:(16<p+bQ s)∨(p+bQ s≤16∧b=true)∨(p+bQ s≤16∧b=false∧s=256)∨(p+bQ s≤16∧b=false∧(s==256)=false):=by
  by_cases hx:16<p+bQ s
  ·exact .inl hx
  ·cases b
   ·by_cases hs:s=256
    ·exact .inr (.inr (.inl ⟨by omega,rfl,hs⟩))
    ·exact .inr (.inr (.inr ⟨by omega,rfl,by simpa using hs⟩))
   ·exact .inr (.inl ⟨by omega,rfl⟩)
 have HV:Hid (cE ⟨c,p,s,b⟩=true↔p+bQ s≤16∧(b=true∨s=256)):=by rw[Hid,bz];simp only;exact ⟨fun h=>⟨h.2.2.2.2.2.1,h.2.2.2.2.2.2⟩,fun h=>⟨k1,k2,k3,k4,k5,h.1,h.2⟩⟩
 obtain ⟨L,hL⟩:=aG (bQ s);rw[hL] at oq Q6 HV;have ou:=aa hL;clear hL;have hwr:IntKind.i64.wrap (p+L)=p+L:=IntWalk.i64_in _ (by omega);rcases oq with h|⟨h,rfl⟩|⟨h,rfl,rfl⟩|⟨h,rfl,hse⟩
 ·have hd:decide (16<p+L)=true:=by simp;omega
  go_enter Tryz.func97,Tryz.ntmps97;go_upto_region 1 with fail;go_region_held3 (fun w'=>w'.cell? ⟨w.heap.size,0,none⟩=some (.int .i64 c)∧w'.cell? ⟨w.heap.size,1,none⟩=some (.int .i64 p)∧w'.cell? ⟨w.heap.size,2,none⟩=some (.int .i64 s)∧w'.cell? ⟨w.heap.size,3,none⟩=some (.bool b))
   (first|exact tB.o|exact HC.o)
   (first|(go_at_call 38;refine (tC c p s _ b (by omega) (by omega) ou.o _).mono ?_;rintro e w2 ⟨rfl,hb⟩;have tB:=aa (kY.below (show kY w.heap.size c p s b W1.drew from HC.o) hb);have aZ:=aa (ak HB.o.drew hb);clear hb))
  go_wp2_with fail;go_ret;refine ⟨qE ?_,aZ⟩;symm;rw[← Bool.not_eq_true,HV.o];omega
 ·have hd:decide (16<p+L)=false:=by simp;omega
  go_enter Tryz.func97,Tryz.ntmps97;go_upto_region 1 with fail;go_region_held3 (fun w'=>w'.cell? ⟨w.heap.size,0,none⟩=some (.int .i64 c)∧w'.cell? ⟨w.heap.size,1,none⟩=some (.int .i64 p)∧w'.cell? ⟨w.heap.size,2,none⟩=some (.int .i64 s)∧w'.cell? ⟨w.heap.size,3,none⟩=some (.bool true))
   (first|exact tB.o|exact HC.o)
   (first|(go_at_call 38;refine (tC c p s _ true (by omega) (by omega) ou.o _).mono ?_;rintro e w2 ⟨rfl,hb⟩;have tB:=aa (kY.below (show kY w.heap.size c p s true W1.drew from HC.o) hb);have aZ:=aa (ak HB.o.drew hb);clear hb))
  go_wp2_with fail;go_ret;exact ⟨qE ((HV).2 ⟨by omega,by simp⟩).symm,aZ⟩
 ·have hd:decide (16<p+L)=false:=by simp;omega
  go_enter Tryz.func97,Tryz.ntmps97;go_upto_region 1 with fail;go_region_held3 (fun w'=>w'.cell? ⟨w.heap.size,0,none⟩=some (.int .i64 c)∧w'.cell? ⟨w.heap.size,1,none⟩=some (.int .i64 p)∧w'.cell? ⟨w.heap.size,2,none⟩=some (.int .i64 256)∧w'.cell? ⟨w.heap.size,3,none⟩=some (.bool false))
   (first|exact tB.o|exact HC.o)
   (first|(go_at_call 38;refine (tC c p 256 _ false (by omega) (by omega) ou.o _).mono ?_;rintro e w2 ⟨rfl,hb⟩;have tB:=aa (kY.below (show kY w.heap.size c p 256 false W1.drew from HC.o) hb);have aZ:=aa (ak HB.o.drew hb);clear hb))
  go_wp2_with fail;go_ret;exact ⟨qE ((HV).2 ⟨by omega,by simp⟩).symm,aZ⟩
 ·have hd:decide (16<p+L)=false:=by simp;omega
  go_enter Tryz.func97,Tryz.ntmps97;go_upto_region 1 with fail;go_region_held3 (fun w'=>w'.cell? ⟨w.heap.size,0,none⟩=some (.int .i64 c)∧w'.cell? ⟨w.heap.size,1,none⟩=some (.int .i64 p)∧w'.cell? ⟨w.heap.size,2,none⟩=some (.int .i64 s)∧w'.cell? ⟨w.heap.size,3,none⟩=some (.bool false))
   (first|exact tB.o|exact HC.o)
   (first|(go_at_call 38;refine (tC c p s _ false (by omega) (by omega) ou.o _).mono ?_;rintro e w2 ⟨rfl,hb⟩;have tB:=aa (kY.below (show kY w.heap.size c p s false W1.drew from HC.o) hb);have aZ:=aa (ak HB.o.drew hb);clear hb))
  go_wp2_with fail;go_ret;refine ⟨qE ?_,aZ⟩;symm;rw[← Bool.not_eq_true,HV.o];intro hq;rcases hq.2 with B3|B3;cases B3;subst B3;simp at hse
def cG (x:aA):Int:=if cE x=true then kx x else -1
theorem Gn (x:aA) (w:World):Calls Tryz.prog 44 #[x.agg] w fun e w'=>e=.returned (.int .i64 (cG x))∧Bw w w':=by
 obtain ⟨c,p,s,b⟩:=x;simp only[aA.agg];have HB:=aa (show Bw w (w.alloc (.cells #[.int .i64 c,.int .i64 p,.int .i64 s,.bool b] 50)) from aq);have HC:=aa (show kY w.heap.size c p s b (w.alloc (.cells #[.int .i64 c,.int .i64 p,.int .i64 s,.bool b] 50)) from ⟨by simp,by simp,by simp,by simp⟩);by_cases hm:cE ⟨c,p,s,b⟩=true
 ·have HV:=aa (show cG ⟨c,p,s,b⟩=kx ⟨c,p,s,b⟩ by unfold cG;rw[if_pos hm])
  have hi:=(bz _).1 hm;have HM:=aa hm;clear hm;obtain ⟨k1,k2,k3,k4,k5,k6,_⟩:=hi;simp only at k1 k2 k3 k4 k5 k6;have Q6:=gD k3 k4;have k6':p≤16:=by omega
  clear k6;go_enter Tryz.func44,Tryz.ntmps44;go_wp2_with fail;refine (xH ⟨c,p,s,b⟩ _).mono ?_;rintro e w1 ⟨rfl,hb⟩;rw[HM.o];have aZ:=aV HB hb;obtain ⟨q0,q1,q2,q3⟩:=HC.below hb;have hl:=World.block_lt_of_cell? _ _ q0;clear hb;cases b
  all_goals
   go_wp2_with fail;go_ret;refine ⟨xF ?_,aZ⟩;rw[HV.o];unfold kx;simp;try omega
 ·have HV:=aa (show cG ⟨c,p,s,b⟩ = -1 by unfold cG;rw[if_neg hm])
  have HM:=aa (show cE ⟨c,p,s,b⟩=false by simpa using hm);clear hm;go_enter Tryz.func44,Tryz.ntmps44;go_wp2_with fail;refine (xH ⟨c,p,s,b⟩ _).mono ?_;rintro e w1 ⟨rfl,hb⟩;rw[HM.o];have aZ:=aV HB hb;clear hb;go_wp2_with fail;go_ret;exact ⟨xF HV.symm,aZ⟩
theorem Vh {n:Int} (h:0≤n):sD n=(cG (bM n)==n):=by
 unfold sD cG;by_cases hm:cE (bM n)=true
 ·rw[if_pos hm,CM h,hm];simp[h]
 ·rw[if_neg hm]
  have:cE (bM n)=false:=by simpa using hm
  rw[this];simp;omega
theorem zK (n:Int) (_h1 : -9223372036854775808≤n) (h2:n≤9223372036854775807) (w:World):Calls Tryz.prog 36 #[.int .i64 n] w fun e w'=>e=.returned (.tuple #[(Kb n).agg,.bool (sD n)])∧Bw w w':=by
 by_cases h0:n<0
 ·have HF:=aa (show sD n=false by unfold sD;simp;omega)
  go_enter Tryz.func36,Tryz.ntmps36;go_wp2_with fail;refine bodyPost_ret (v:=.tuple #[aA.zero.agg,.bool false]) (by simp[results,Tryz.results36,go_sem,aA.agg,aA.zero]) rfl ⟨by unfold Kb;rw[HF.o];rfl,aq⟩
 have Cj:0≤n:=by omega
 obtain ⟨b,hb⟩:=aG (sD n);have hq:(cG (bM n) != n)=!b:=by rw[← hb,Vh Cj];rfl
 have JN:=aa hb;have Q7:=aa (CN Cj);obtain ⟨N,hN⟩:=aG (cG (bM n));rw[hN] at hq;have HN:=aa (show cG ⟨n/8224,n/514%16,n/2%257,n%2==1⟩=N by rw[← Q7.o];exact hN);clear hb hN;go_enter Tryz.func36,Tryz.ntmps36;go_wp2_with fail;refine (Gn ⟨n/8224,n/514%16,n/2%257,n%2==1⟩ _).mono ?_;rintro e w1 ⟨rfl,hb⟩;rw[HN.o];have q0:w1.cell? ⟨w.heap.size,0,none⟩=some (.int .i64 0):=eO hb (by simp);have q1:w1.cell? ⟨w.heap.size,1,none⟩=some (.int .i64 0):=eO hb (by simp);have q2:w1.cell? ⟨w.heap.size,2,none⟩=some (.int .i64 0):=eO hb (by simp);have q3:w1.cell? ⟨w.heap.size,3,none⟩=some (.bool false):=eO hb (by simp);have p0:w1.cell? ⟨w.heap.size+1,0,none⟩=some (.int .i64 (n/8224)):=eO hb (by simp);have p1:w1.cell? ⟨w.heap.size+1,1,none⟩=some (.int .i64 (n/514%16)):=eO hb (by simp);have p2:w1.cell? ⟨w.heap.size+1,2,none⟩=some (.int .i64 (n/2%257)):=eO hb (by simp);have p3:w1.cell? ⟨w.heap.size+1,3,none⟩=some (.bool (n%2==1)):=eO hb (by simp);have f0:w1.frozen? ⟨w.heap.size,0,none⟩=false:=(hb.frozen (p:=⟨w.heap.size,0,none⟩) (by simp;omega)).trans (by simp);have f1:w1.frozen? ⟨w.heap.size,1,none⟩=false:=(hb.frozen (p:=⟨w.heap.size,1,none⟩) (by simp;omega)).trans (by simp);have f2:w1.frozen? ⟨w.heap.size,2,none⟩=false:=(hb.frozen (p:=⟨w.heap.size,2,none⟩) (by simp;omega)).trans (by simp);have f3:w1.frozen? ⟨w.heap.size,3,none⟩=false:=(hb.frozen (p:=⟨w.heap.size,3,none⟩) (by simp;omega)).trans (by simp);have hl:w.heap.size+1<w1.heap.size:=by have:=hb.size;simp at this;omega
 have HB:=aa (ak (((Below.refl w.heap.size w).alloc aT _).alloc (by simp) _) hb);clear hb;cases b
 ·simp only[Bool.not_false] at hq
  go_wp2_with fail;refine bodyPost_ret (v:=.tuple #[aA.zero.agg,.bool false]) (by simp[results,Tryz.results36,go_sem,aA.agg,aA.zero,q0,q1,q2,q3];try omega) rfl ⟨by unfold Kb;rw[JN.o];rfl,?_⟩;exact (((HB.setCell aT _).setCell aT _).setCell aT _).setCell aT _
 ·simp only[Bool.not_true] at hq
  go_wp2_with fail;refine bodyPost_ret (v:=.tuple #[(aA.mk (n/8224) (n/514%16) (n/2%257) (n%2==1)).agg,.bool true]) (by simp[results,Tryz.results36,go_sem,aA.agg,q0,q1,q2,q3];try omega) rfl ⟨by unfold Kb;rw[JN.o,← Q7.o];rfl,?_⟩;exact (((HB.setCell aT _).setCell aT _).setCell aT _).setCell aT _
def dH (size:Int) (x:az):Bool:=sD x.2&&decide (0≤x.1∧x.1<size)
def cI (d:dy):Bool:=decide (1≤d.id∧d.id≤1000∧0≤d.size∧d.size≤100000)&&jT d.map&&(aB d.map).all (dH d.size)
def Q8 (l:List dy):Prop:=∀i x y,l[i]?=some x→l[i+1]?=some y→x.id<y.id
def pU (g:Nat) (a b x y z:Value) (w:World):Prop:=w.cell? ⟨g,0,none⟩=some a∧w.cell? ⟨g,1,none⟩=some b∧w.cell? ⟨g,2,none⟩=some x∧w.cell? ⟨g,3,none⟩=some y∧w.cell? ⟨g,4,none⟩=some z
theorem pU.below {g:Nat} {a b x y z:Value} {w w':World} (h:pU g a b x y z w) (hb:Bw w w'):pU g a b x y z w':=
 ⟨ae hb h.1,ae hb h.2.1,ae hb h.2.2.1,ae hb h.2.2.2.1,ae hb h.2.2.2.2⟩
def dN (t:ag):Prop:=(aB t).length≤2000
theorem vU {d:dy} {x:az} {i:Nat} (h:(aB d.map)[i]?=some x) (hx:dH d.size x=false):cI d=false:=by unfold cI;rw[show (aB d.map).all (dH d.size)=false from List.all_eq_false.2 ⟨x,List.mem_of_getElem? h,by rw[hx];simp⟩,Bool.and_false]
def sP (t:ag):Int:=t.keys.headD 0
def iQ (p:List az):ag:=.mk (p.map Prod.fst) (p.map Prod.snd) []
def jG (p:List ag):ag:=.mk (p.map sP) [] p
structure CW (row:List ag) (l:List az) (d:Nat):Prop where
 some:1≤row.length
 less:row.length*2 ^ d≤2 ^ 21
 cat:bR row=l
 keys:∀t∈row,1≤t.keys.length
 deep:∀t∈row,∀k:Int,d≤k→k≤40→cH t k=d
 low:∀t∈row,bG t 0=true
 two:2≤row.length→∀t∈row,bG t 2=true
 one:1≤d
theorem zY (p:List az):aB (iQ p)=p:=by
 unfold iQ;simp only[aB,bR,List.length_nil,if_true,List.append_nil]
 induction p with
 |nil=>rfl
 |cons a p ih=>simp only[List.map_cons,List.zip_cons_cons,ih]
theorem Ks {p:List ag} (h:1≤p.length):aB (jG p)=bR p:=by unfold jG;simp only[aB];rw[if_neg (by omega),List.nil_append]
def Grown (l:List az) (t:ag):Prop:=aB t=l∧cH t 40≠0∧bG t 0=true
theorem NU {row:List ag} {l:List az} {d:Nat} {t:ag} (h:CW row l d) (ht:row=[t]):Grown l t:=by
 subst ht;have hd:d≤21:=by have h3:=h.less;simp only[List.length_cons,List.length_nil,Nat.zero_add,Nat.one_mul] at h3;exact (Nat.pow_le_pow_iff_right (by omega)).1 h3
 refine ⟨?_,?_,h.low t (by simp)⟩
 ·have:=h.cat;simpa [bR] using this
 ·rw[h.deep t (by simp) 40 (by omega) (by omega)];have:=h.one;omega
theorem Grown.may {l:List az} {t:ag} (h:Grown l t) (hr:jD l=true):jT t=true:=by unfold jT;rw[h.1,hr,decide_eq_true h.2.1,h.2.2];rfl
theorem bE {P:Program} {ops:Array Oper} {o:Oper} {a:Act} {w w':World} {K:Act→World→Prop} {Q:Exit→Act→World→Prop} {E:Prop}
 (hg:o.guard=none) (s x:Operand) (t:TypeId) (hop:o.op=Op.call {callee:=Callee.builtin Builtin.append,args := #[s,x],argTypes := #[t,t]})
 {vs vx v':Value} (hs:a.eval s=vs) (hx:a.eval x=vx) (hr:(Builtin.append_ #[t,t] o.type #[vs,vx]).run P w=.ok v' w') (hK:K (a.put o.dst v') w') :
 if Region.wanted o (yielded ops a.tmps)=true then Oper.wp P o a w K Q else E:=by
 have hw:Region.wanted o (yielded ops a.tmps)=true:=by simp[Region.wanted,hg]
 rw[if_pos hw];unfold Oper.wp;simp[execOp,hop,resolve,invoke,builtin,hs,hx,hr,Result.andThen];exact hK
structure J1 where
 act:Int
 FR:Int
 dest:Int
 block:Int
 n:Int
 text:ByteArray
def J1.cells (o:J1):List Value:=[.int .i64 o.act,.int .i64 o.FR,.int .i64 o.dest,.int .i64 o.block,.int .i64 o.n,.string o.text]
def J1.zero:J1:=⟨0,0,0,0,0,⟨#[]⟩⟩
def J1.agg (o:J1):Value:=.agg #[.int .i64 o.act,.int .i64 o.FR,.int .i64 o.dest,.int .i64 o.block,.int .i64 o.n,.string o.text]
end Go.Proofs.YtbigkioechkngaaGreat
