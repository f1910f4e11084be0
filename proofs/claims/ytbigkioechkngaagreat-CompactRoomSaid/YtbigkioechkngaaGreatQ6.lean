/- The proof, part 7. -/
import Derived.Test.YtbigkioechkngaaGreatQ4
import Derived.Maps.OwnIn
import Derived.Test.YtbigkioechkngaaGreatQ5
import Derived.Sort.LoopGhostIn
import Derived.Laws.OwnMore
import Derived.Laws.Rows
import Derived.Test.YtbigkioechkngaaGreatProg
import Derived.Outline
import Derived.Deep.RegionLaw
set_option maxRecDepth 100000
set_option maxHeartbeats 8000000
namespace Go.Proofs.YtbigkioechkngaaGreat
open Go.RowKit
abbrev fB:=Int×ByteArray
structure aL where
 kept:List ByteArray
 cache:List fB
 ah:Int
 keep:List Bool
 dead:Bool
def lg (s:ByteArray):List Value:=[.string s]
def lG (p:fB):List Value:=[.int .i64 p.1,.string p.2]
theorem ji (s:ByteArray):(lg s).length=1:=rfl
theorem mC (p:fB):(lG p).length=2:=rfl
theorem uN (s:ByteArray):∀u∈lg s,u.oneCell'=true:=by intro u hu;unfold lg at hu;simp only[List.mem_singleton] at hu;subst hu;rfl
theorem uO (p:fB):∀u∈lG p,u.oneCell'=true:=by intro u hu;unfold lG at hu;simp only[List.mem_cons,List.not_mem_nil,or_false] at hu;rcases hu with rfl|rfl <;> rfl
structure X2 (d:aL):Prop where
 kept:∀s∈d.kept,s.size≤maxLen
 cache:∀p∈d.cache,aP p.1∧p.2.size≤maxLen
 ah:aP d.ah
structure bP (w:World) (d:aL) (vk vc vp:Value):Prop where
 kept:dx w vk 1 lg d.kept
 cache:dx w vc 2 lG d.cache
 keep:dA w vp d.keep
 bd:X2 d
theorem bP.keeps {w w':World} {d:aL} {vk vc vp:Value} (h:bP w d vk vc vp) (hk:dJ w w'):bP w' d vk vc vp:=⟨h.kept.keep hk,h.cache.keep hk,h.keep.keep hk,h.bd⟩
theorem bP.below {w w':World} {d:aL} {vk vc vp:Value} (h:bP w d vk vc vp) (hb:Bw w w'):bP w' d vk vc vp:=h.keeps (af hb)
def eE (d:aL) (vk vc vp:Value):Value:=.agg #[vk,vc,.int .i64 d.ah,vp,.bool d.dead]
def eM (W:World) (b:Nat) (vk vc vf vp vd:Value):Prop:=W.cell? ⟨b,0,none⟩=some vk∧W.cell? ⟨b,1,none⟩=some vc∧W.cell? ⟨b,2,none⟩=some vf∧W.cell? ⟨b,3,none⟩=some vp∧W.cell? ⟨b,4,none⟩=some vd
theorem eM.below {W W':World} {b:Nat} {vk vc vf vp vd:Value} (h:eM W b vk vc vf vp vd) (hb:Bw W W'):eM W' b vk vc vf vp vd:=⟨ae hb h.1,ae hb h.2.1,ae hb h.2.2.1,ae hb h.2.2.2.1,ae hb h.2.2.2.2⟩
theorem eM.grown {W W':World} {b:Nat} {vk vc vf vp vd:Value} {row:Option Nat} (h:eM W b vk vc vf vp vd) (hg:W.grownBy W' row) (hne:some b≠row):eM W' b vk vc vf vp vd:=⟨hg.cell h.1 hne,hg.cell h.2.1 hne,hg.cell h.2.2.1 hne,hg.cell h.2.2.2.1 hne,hg.cell h.2.2.2.2 hne⟩
theorem eM.new (W:World) (vk vc vf vp vd:Value) (T:TypeId):eM (W.alloc (.cells #[vk,vc,vf,vp,vd] T)) W.heap.size vk vc vf vp vd:=⟨by simp,by simp,by simp,by simp,by simp⟩
theorem dx.slice {α:Type} {w:World} {v:Value} {k:Nat} {f:α→List Value} {l:List α} (h:dx w v k f l):∃p c,v=.slice p l.length c∧l.length≤c∧c≤maxLen:=by obtain ⟨p,c,h1,h2,h3,_⟩:=h;exact ⟨p,c,h1,h2,h3⟩
theorem dA.slice {w:World} {v:Value} {l:List Bool} (h:dA w v l):∃p c,v=.slice p l.length c∧l.length≤c∧c≤maxLen:=by obtain ⟨p,c,h1,h2,h3,_⟩:=h;exact ⟨p,c,h1,h2,h3⟩
theorem dx.cells {α:Type} {w:World} {p:Option Addr} {n c k:Nat} {f:α→List Value} {l:List α} (h:dx w (.slice p n c) k f l):∀i x,l[i]?=some x→∃g o,p=some ⟨g,o,none⟩∧∀j u,(f x)[j]?=some u→w.cell? ⟨g,o+i*k+j,none⟩=some u:=by obtain ⟨p',c',h1,h2,h3,_,h5⟩:=h;injection h1 with e1 _ _;subst e1;exact h5
theorem dA.cells {w:World} {p:Option Addr} {n c:Nat} {l:List Bool} (h:dA w (.slice p n c) l):∀i x,l[i]?=some x→∃g o,p=some ⟨g,o,none⟩∧w.cell? ⟨g,o+i,none⟩=some (.bool x):=by obtain ⟨p',c',h1,h2,h3,_,h5⟩:=h;injection h1 with e1 _ _;subst e1;exact h5
def X3 (n:Nat) (p:fB):Bool:=decide (0≤p.1∧p.1<n∧p.2.size=32)
def gu (d:aL):Bool:=decide (1≤d.kept.length∧d.kept.length≤5000∧d.cache.length≤20000 ∧ -1≤d.ah)&&d.kept.all (fun s=>s.size==32)&&d.cache.all (X3 d.kept.length)
theorem fW (d:aL):gu d=true↔(1≤d.kept.length∧d.kept.length≤5000∧d.cache.length≤20000 ∧ -1≤d.ah)∧(∀s∈d.kept,s.size=32)∧∀p∈d.cache,0≤p.1∧p.1<d.kept.length∧p.2.size=32:=by unfold gu X3;simp only[Bool.and_eq_true,decide_eq_true_eq,List.all_eq_true,beq_iff_eq];exact ⟨fun h=>⟨h.1.1,h.1.2,h.2⟩,fun h=>⟨⟨h.1,h.2.1⟩,h.2.2⟩⟩
def eB:ByteArray:=⟨#[]⟩
def iY:ByteArray:=⟨(List.replicate 32 (0:UInt8)).toArray⟩
def iZ:aL:=⟨[],[],0,[],false⟩
def kL (l:List fB) (pos:Int) (s:ByteArray):ByteArray:=l.foldl (fun s p=>if p.1=pos then p.2 else s) s
def fq (d:aL) (pos:Int):ByteArray×Int:=
 if gu d=false then (eB,1) else if d.dead=true then (eB,90) else if pos<0∨(d.kept.length:Int)≤pos then (eB,1) else (kL d.cache pos ((d.kept[pos.toNat]?).getD eB),0)
def cM:List fB→List Bool→List ByteArray→List ByteArray
 |p::c,b::l,k=>cM c l (if b=true then k.set p.1.toNat p.2 else k)
 |_,_,k=>k
def yU (d:aL) (keep:List Bool):aL:=if gu d=false then iZ else ⟨cM d.cache keep d.kept,[],-1,[],true⟩
def cC (d:aL) (pos:Int) (s:ByteArray):aL×Int:=
 if gu d=false then (iZ,1) else if d.dead=true then (d,90) else if pos<0∨(d.kept.length:Int)≤pos∨¬s.size=32∨20000≤d.cache.length then (d,1)
 else if d.ah=0 then (yU {d with cache:=d.cache++[(pos,s)]} d.keep,90)
 else if 0<d.ah then ({d with cache:=d.cache++[(pos,s)],ah:=d.ah-1},0)
 else ({d with cache:=d.cache++[(pos,s)]},0)
def Kt (n:Int):aL×Int:=if n<1∨5000<n then (iZ,1) else (⟨List.replicate n.toNat iY,[],-1,[],false⟩,0)
def iR (u:List Bool) (a:Nat) (n:Int):Bool:=decide (1≤n∧n≤(u.length:Int)-a)&&((u.drop a).take n.toNat).all (fun b=>!b)
def gP (u:List Bool) (n:Int):Nat→Nat→Int
 |0,_ => -1
 |f+1,a=>if iR u a n=true then a else gP u n f (a+1)
def fH (u:List Bool) (n:Int):Int:=gP u n u.length 0
theorem tK {u:List Bool} {a:Nat} {n:Int} (h:¬(1≤n∧n≤(u.length:Int)-a)):iR u a n=false:=by unfold iR;rw[decide_eq_false h,Bool.false_and]
theorem CZ {u:List Bool} {a k:Nat} {n:Int} (hk:(k:Int)<n) (h:u[a+k]?=some true):iR u a n=false:=by
 unfold iR;rw[Bool.and_eq_false_iff];refine .inr ?_;rw[← Bool.not_eq_true,List.all_eq_true];intro hall;have:=hall true (by
  rw[List.mem_iff_getElem?];refine ⟨k,?_⟩;rw[List.getElem?_take_of_lt (by omega),List.getElem?_drop];exact h)
 simp at this
theorem Ab {u:List Bool} {a:Nat} {n:Int} (h:1≤n∧n≤(u.length:Int)-a) (hall:∀k:Nat,(k:Int)<n→u[a+k]?=some false):iR u a n=true:=by
 unfold iR;rw[decide_eq_true h,Bool.true_and,List.all_eq_true];intro x hx;obtain ⟨k,hk⟩:=List.mem_iff_getElem?.1 hx;have hlt:k<n.toNat:=by have:=(List.getElem?_eq_some_iff.1 hk).1;rw[List.length_take] at this;omega
 rw[List.getElem?_take_of_lt hlt,List.getElem?_drop,hall k (by omega)] at hk;injection hk with hk;rw[← hk];rfl
theorem RL (u:List Bool) (a:Nat) (n:Int) (v1:Value) (w:World) (h:dA w v1 u) (ha:a≤u.length) (hn:aP n):Calls Tryz.prog 174 #[v1,.int .i64 a,.int .i64 n] w fun e w'=>e=.returned (.bool (iR u a n))∧Bw w w':=by
 obtain ⟨p,c,rfl,a1,a2⟩:=h.slice;have HC:=aa h.cells;clear h;obtain ⟨r,hr⟩:=aG (iR u a n);have HR:=aa hr;obtain ⟨L,hL⟩:=aG u.length;rw[hL] at a1 ha;rw[hr,hL];have HL:=aa hL;clear hr hL;have lL:=fK (n:=L) a2;unfold aP at hn;have c0:¬(a:Int)<0:=by omega
 have c1:¬(L:Int)<(a:Int):=by omega
 have d0:decide ((a:Int)<0)=false:=by simp
 have d1:decide ((L:Int)<(a:Int))=false:=by simp;omega
 clear a1 a2;by_cases hb:1≤n∧n≤(L:Int)-a
 case neg=>
  have HE:=aa (HR.symm.trans (tK (by rw[HL.o];exact hb)));have hc:n<1∨(¬n<1∧(L:Int)-(a:Int)<n):=by omega
  clear hb;go_enter Tryz.func174,Tryz.ntmps174;rcases hc with g1|⟨g1,g2⟩
  ·have d2:decide (n<1)=true:=by simp;omega
   go_wp2_with fail;go_ret;exact ⟨aO HE.symm,aH⟩
  ·have d2:decide (n<1)=false:=by simp;omega
   have d3:decide ((L:Int)-(a:Int)<n)=true:=by simp;omega
   go_wp2_with fail;go_ret;exact ⟨aO HE.symm,aH⟩
 obtain ⟨N,rfl⟩:∃N:Nat,n=N:=⟨n.toNat,by omega⟩
 have g1:¬(N:Int)<1:=by omega
 have g2:¬(L:Int)-(a:Int)<(N:Int):=by omega
 have d2:decide ((N:Int)<1)=false:=by simp;omega
 have d3:decide ((L:Int)-(a:Int)<(N:Int))=false:=by simp;omega
 have jr:=aa hb;clear hb;go_enter Tryz.func174,Tryz.ntmps174;go_upto_region 3 with fail;clear c1 d1 g1 g2 d2 d3;go_wp2_with fail;go_loopw [7] (fun i wr=>∃k:Nat,k≤N∧i=.int .i64 k∧(∀j:Nat,j<k→u[a+j]?=some false)∧Bw w wr) (fun i _=>N-(intOf i).toNat)
 case atStart=>exact ⟨0,dQ,rfl,fun j hj=>by omega,aH⟩
 case round=>
  obtain ⟨k,hk,rfl,hall,hb⟩:=hrel;have ez:=aa hall;have HB:=aa hb;clear hall hb;by_cases hlt:k<N
  case neg=>
   obtain rfl:k=N:=by omega
   have HE:=aa (HR.symm.trans (Ab (by rw[HL.o];exact jr) (fun j hj=>ez j (by omega))));go_wp2_with fail;go_ret;exact ⟨aO HE.symm,HB⟩
  have fO:(k:Int)<(N:Int):=by omega
  have hkd:decide ((k:Int)<(N:Int))=true:=by simp;omega
  have pV:a+k<L:=by have:=jr.o;omega
  have arw:(a:Int)+(k:Int)<(L:Int):=by omega
  have arx:(0:Int)≤(a:Int)+(k:Int):=by omega
  have hw:wrap64 ((a:Int)+(k:Int))=(a:Int)+(k:Int):=by unfold wrap64;omega
  have ary:((a:Int)+(k:Int)).toNat=a+k:=by omega
  obtain ⟨s,hs⟩:=fy (l:=u) (k:=a+k) (by rw[HL.o];exact pV);obtain ⟨g,o,rfl,x1⟩:=HC.o (a+k) s hs;have r1:=ae HB x1;have HS:=aa hs;clear hs x1;cases s with
  |false=>
   have Ac:=aa (show ∀(j:Nat),j<k+1→u[a+j]?=some false from fun j hj=>by
    by_cases e:j=k
    ·rw[e,HS.o]
    ·exact ez j (by omega))
   go_wp2_with fail;go_roundw
   case rel=>exact ⟨k+1,by omega,by go_num,Ac.o,HB.o⟩
   case measure=>simp[intOf];omega
  |true=>have HE:=aa (HR.symm.trans (CZ (by omega) HS));go_wp2_with fail;go_ret;exact ⟨aO HE.symm,HB⟩
theorem GR {u:List Bool} {n:Int} {f k:Nat} (hk:k<f):gP u n (f-k) k=if iR u k n=true then (k:Int) else gP u n (f-(k+1)) (k+1):=by rw[show f-k=(f-(k+1))+1 by omega];rfl
theorem NX (u:List Bool) (n:Int) (v1:Value) (w:World) (h:dA w v1 u) (hn:aP n):Calls Tryz.prog 141 #[v1,.int .i64 n] w fun e w'=>e=.returned (.int .i64 (fH u n))∧Bw w w':=by
 have HF:=aa (fun (k:Nat) (hk:k≤u.length) (W:World) (hb:Bw w W)=>RL u k n v1 W (h.keep (af hb)) hk hn);obtain ⟨p,c,rfl,a1,a2⟩:=h.slice;clear h;obtain ⟨r,hr⟩:=aG (fH u n);unfold fH at hr;obtain ⟨L,hL⟩:=aG u.length;rw[hL] at a1 hr HF;rw[show fH u n=r by unfold fH;rw[hL];exact hr,hL];have HR:=aa hr;clear hr hL;have lL:=fK (n:=L) a2;unfold aP at hn;clear a1 a2;go_enter Tryz.func141,Tryz.ntmps141;go_wp2_with fail;go_loopw [5] (fun i wr=>∃k:Nat,k≤L∧i=.int .i64 k∧gP u n (L-k) k=r∧Bw w wr) (fun i _=>L-(intOf i).toNat)
 case atStart=>exact ⟨0,dQ,rfl,HR,aH⟩
 case round=>
  obtain ⟨k,hk,rfl,hall,hb⟩:=hrel;have ez:=aa hall;have HB:=aa hb;clear hall hb;by_cases hlt:k<L
  case neg=>
   obtain rfl:k=L:=by omega
   have HE:=aa (show r = -1 by have:=ez.o;rw[Nat.sub_self] at this;exact this.symm);go_wp2_with fail;go_ret;exact ⟨by rw[HE.o];rfl,HB⟩
  have fO:(k:Int)<(L:Int):=by omega
  have J7:=HF.o k hk wr HB.o;obtain ⟨b,yV⟩:=aG (iR u k n);rw[yV] at J7;have ady:=aa J7;have fS:=aa ((GR hlt).symm.trans ez);rw[yV] at fS;clear J7 yV;cases b with
  |true=>have HE:=aa (show r=k by have:=fS.o;rw[if_pos rfl] at this;exact this.symm);go_wp2_with (go_at_call 174;(with_reducible refine ady.o.mono ?_);rintro e w5 ⟨rfl,aR⟩;have bA:=aV HB aR;clear aR);go_ret;exact ⟨by rw[HE.o];rfl,bA⟩
  |false=>
   have HE:=aa (show gP u n (L-(k+1)) (k+1)=r by have:=fS.o;rw[if_neg (by simp)] at this;exact this);go_wp2_with (go_at_call 174;(with_reducible refine ady.o.mono ?_);rintro e w5 ⟨rfl,aR⟩;have bA:=aV HB aR;clear aR);go_roundw
   case rel=>exact ⟨k+1,by omega,by go_num,HE.o,bA.o⟩
   case measure=>simp[intOf];omega
def pM (l:List az):Prop:=l.Pairwise fun a b=>a.1<b.1
theorem GS:∀ {a b:List az},pM a→pM b→(∀p,p∈a↔p∈b)→a=b
 |[],[],_,_,_=>rfl
 |[],y::b,_,_,h=>by have:=(h y).2 (by simp);simp at this
 |x::a,[],_,_,h=>by have:=(h x).1 (by simp);simp at this
 |x::a,y::b,ha,hb,h=>by
  unfold pM at ha hb;rw[List.pairwise_cons] at ha hb;have Ci:x=y:=by
   have h1:=(h x).1 (by simp);have h2:=(h y).2 (by simp);rw[List.mem_cons] at h1 h2;rcases h1 with h1|h1
   ·exact h1
   rcases h2 with h2|h2
   ·exact h2.symm
   have h3:=hb.1 x h1;have h4:=ha.1 y h2;omega
  subst Ci;have hab:a=b:=GS (a:=a) (b:=b) ha.2 hb.2 fun p=>by
   constructor
   ·intro hp
    have h5:=(h p).1 (by simp[hp]);rw[List.mem_cons] at h5;rcases h5 with rfl|h5
    ·have:=ha.1 p hp;omega
    ·exact h5
   ·intro hp
    have h5:=(h p).2 (by simp[hp]);rw[List.mem_cons] at h5;rcases h5 with rfl|h5
    ·have:=hb.1 p hp;omega
    ·exact h5
  rw[hab]
theorem wu:∀(l:List az) (k v:Int),fE l k v true=l.filter fun x=>x.1 != k
 |[],k,v=>by simp[fE]
 |x::l,k,v=>by rw[og,if_neg (by simp),Bool.true_or,wu l k v];by_cases h:x.1=k <;> simp[h]
theorem Ad:∀(l:List az) (k v:Int),pM l→∀p,p∈fE l k v false↔p=(k,v)∨(p∈l∧p.1≠k)
 |[],k,v,_,p=>by simp[fE]
 |x::l,k,v,h,p=>by
  unfold pM at h;rw[List.pairwise_cons] at h;rw[og];by_cases hk:k≤x.1
  ·rw[if_pos ⟨rfl,hk⟩,decide_eq_true hk,Bool.or_true,wu]
   by_cases hx:x.1=k
   ·rw[if_pos hx]
    simp only[List.append_nil,List.mem_append,List.not_mem_nil,or_false,List.mem_filter,List.mem_cons,bne_iff_ne,ne_eq];constructor
    ·rintro (h1|h1)
     ·exact .inl h1
     ·exact .inr ⟨.inr h1.1,h1.2⟩
    ·rintro (h1|⟨h1|h1,h2⟩)
     ·exact .inl h1
     ·subst h1;exact absurd hx h2
     ·exact .inr ⟨h1,h2⟩
   ·rw[if_neg hx]
    simp only[List.mem_append,List.not_mem_nil,or_false,List.mem_filter,List.mem_cons,bne_iff_ne,ne_eq];constructor
    ·rintro ((h1|h1)|h1)
     ·exact .inl h1
     ·subst h1;exact .inr ⟨.inl rfl,hx⟩
     ·exact .inr ⟨.inr h1.1,h1.2⟩
    ·rintro (h1|⟨h1|h1,h2⟩)
     ·exact .inl (.inl h1)
     ·exact .inl (.inr h1)
     ·exact .inr ⟨h1,h2⟩
  ·rw[if_neg (by intro e;exact hk e.2),if_neg (by omega),show (false || decide (k≤x.1))=false by rw[Bool.false_or];exact decide_eq_false hk]
   simp only[List.nil_append,List.mem_append,List.not_mem_nil,or_false,List.mem_cons,Ad l k v h.2 p];constructor
   ·rintro (h1|h1|h1)
    ·subst h1;exact .inr ⟨.inl rfl,by omega⟩
    ·exact .inl h1
    ·exact .inr ⟨.inr h1.1,h1.2⟩
   ·rintro (h1|⟨h1|h1,h2⟩)
    ·exact .inr (.inl h1)
    ·exact .inl h1
    ·exact .inr (.inr ⟨h1,h2⟩)
theorem C0:∀(l:List az) (k v:Int),pM l→pM (fE l k v false)
 |[],k,v,_=>by simp[fE,pM]
 |x::l,k,v,h=>by
  have h0:=h;unfold pM at h;rw[List.pairwise_cons] at h;rw[og];by_cases hk:k≤x.1
  ·rw[if_pos ⟨rfl,hk⟩,decide_eq_true hk,Bool.or_true,wu]
   have hl:l.filter (fun y=>y.1 != k)=l:=List.filter_eq_self.2 fun y hy=>by have:=h.1 y hy;rw[bne_iff_ne];omega
   rw[hl];by_cases hx:x.1=k
   ·rw[if_pos hx]
    show List.Pairwise (fun a b:az=>a.1<b.1) ((k,v)::l);rw[List.pairwise_cons];exact ⟨fun y hy=>by have:=h.1 y hy;simp only;omega,h.2⟩
   ·rw[if_neg hx]
    show List.Pairwise (fun a b:az=>a.1<b.1) ((k,v)::x::l);rw[List.pairwise_cons];refine ⟨fun y hy=>?_,h0⟩;rw[List.mem_cons] at hy;rcases hy with rfl|hy
    ·simp only;omega
    ·have:=h.1 y hy;simp only;omega
  ·rw[if_neg (by intro e;exact hk e.2),if_neg (by omega),show (false || decide (k≤x.1))=false by rw[Bool.false_or];exact decide_eq_false hk]
   show List.Pairwise (fun a b:az=>a.1<b.1) (x::fE l k v false);rw[List.pairwise_cons];refine ⟨fun y hy=>?_,C0 l k v h.2⟩;rcases (Ad l k v h.2 y).1 hy with rfl|hy
   ·simp only;omega
   ·exact h.1 y hy.1
def jH (out:List az) (vals:List Int):Prop:=pM out∧∀p,p∈out↔p.1∈vals∧p.2=(vals.count p.1:Nat)
theorem jH.nil:jH [] []:=⟨List.Pairwise.nil,fun p=>by simp⟩
theorem jH.get {out:List az} {vals:List Int} (h:jH out vals) (k:Int):(kh out k).1=(vals.count k:Nat):=by
 unfold kh;cases hf:out.find? (fun x=>x.1==k) with
 |none=>
  have h1:=List.find?_eq_none.1 hf;have hk:k∉vals:=fun hk=>by have:=h1 (k,(vals.count k:Nat)) ((h.2 _).2 ⟨hk,rfl⟩);simp at this
  rw[List.count_eq_zero_of_not_mem hk];rfl
 |some x=>
  have h1:=List.find?_some hf;have h2:=(h.2 x).1 (List.mem_of_find?_eq_some hf);have h3:x.1=k:=by simpa using h1
  rw[← h3];exact h2.2
theorem jH.put {out:List az} {vals:List Int} (h:jH out vals) (k:Int):jH (fE out k ((kh out k).1+1) false) (vals++[k]):=by
 refine ⟨C0 _ _ _ h.1,fun p=>?_⟩;rw[Ad _ _ _ h.1,h.get k,h.2];simp only[List.mem_append,List.mem_singleton,List.count_append];obtain ⟨a,b⟩:=p;simp only[Prod.mk.injEq];by_cases hk:a=k
 ·subst hk
  simp only[true_and,List.count_singleton_self,or_true,ne_eq,not_true,and_false,or_false];push_cast;rfl
 ·have hc:List.count a [k]=0:=List.count_eq_zero_of_not_mem (by simpa using hk)
  simp only[hk,false_and,false_or,ne_eq,not_false_eq_true,and_true,or_false,hc,Nat.add_zero]
theorem jH.one {a b:List az} {vals:List Int} (ha:jH a vals) (hb:jH b vals):a=b:=GS ha.1 hb.1 fun p=>by rw[ha.2,hb.2]
def ij (l:List az):List Int:=l.map Prod.snd
def df (l:List dy):List Int:=(l.map fun d=>ij (aB d.map)).flatten
theorem xR:∀(l:List az) {out:List az} {vals:List Int},jH out vals→jH (eh out l) (vals++ij l)
 |[],out,vals,h=>by simp only[eh,ij,List.map_nil,List.append_nil];exact h
 |p::l,out,vals,h=>by have:=xR l (h.put p.2);simp only[eh];rw[show vals++ij (p::l)=vals++[p.2]++ij l by simp[ij]];exact this
theorem Ae:∀(l:List dy) {out:List az} {vals:List Int},jH out vals→jH (eW out l) (vals++df l)
 |[],out,vals,h=>by simp only[eW,df,List.map_nil,List.flatten_nil,List.append_nil];exact h
 |d::l,out,vals,h=>by have:=Ae l (xR (aB d.map) h);simp only[eW];rw[show vals++df (d::l)=vals++ij (aB d.map)++df l by simp[df]];exact this
theorem lH {l:List dy} (h:dR l=true):jH (aY l) (df l):=by
 unfold aY;rw[if_pos h];have:=Ae l jH.nil
 simpa using this
theorem Ku {l:List dy} {k:Nat} {s:dy} (h:l[k]?=some s):df (l.take (k+1))=df (l.take k)++ij (aB s.map):=by obtain ⟨hk,rfl⟩:=List.getElem?_eq_some_iff.1 h;unfold df;rw[List.take_succ_eq_append_getElem hk,List.map_append,List.flatten_append];simp
theorem EH {n:Int} (h:sD n=true):0≤n∧n<10000000:=by unfold sD at h;simp only[Bool.and_eq_true,decide_eq_true_eq] at h;obtain ⟨h0,h1⟩:=h;rw[CN h0,bz] at h1;simp only at h1;omega
theorem Af {d:dy} (h:cI d=true):∀v∈ij (aB d.map),0≤v∧v<10000000:=by intro v hv;unfold ij at hv;rw[List.mem_map] at hv;obtain ⟨x,hx,rfl⟩:=hv;unfold cI at h;simp only[Bool.and_eq_true,List.all_eq_true] at h;have:=h.2 x hx;unfold dH at this;simp only[Bool.and_eq_true] at this;exact EH this.1
end Go.Proofs.YtbigkioechkngaaGreat
namespace Go.Proofs.YtbigkioechkngaaGreat
open Go.RowKit Go.Shelf
def Cm (W:World) (b:Nat) (vals:List Int):Prop:=
 ∃D:DataW Unit,W.ownsMap Tryz.prog 3 (plainElem Tryz.prog 3) b vals.length D∧Maps.IsMap D ∧
  (∀k,aP k→D.atKey (.int .i64 k) (.lit (.int .i64 0))=.lit (.int .i64 (vals.count k:Nat)))∧∀k,aP k→Maps.has D (.int .i64 k)=decide (k∈vals)
theorem EI {k:Int} (h:aP k):(Lit.int .i64 k).wf=true:=by unfold aP at h;simp[Lit.wf,IntKind.min,IntKind.max,IntKind.signed,IntKind.bits];omega
theorem uP (k:Int):Go.WideAt.IsKeyLit (.int .i64 k):=by trivial
theorem Cm.new (W:World):Cm (W.alloc (.map #[] 0)) W.heap.size []:=
 ⟨.map [],World.ownsMap_made W Tryz.prog 3 _,Maps.isMap_empty,fun k _=>by simp[DataW.atKey],fun k _=>by simp[Maps.has]⟩
theorem Cm.kept {W W':World} {b:Nat} {vals:List Int} {row:Option Nat} (h:Cm W b vals) (hg:W.grownBy W' row) (hne:some b≠row):Cm W' b vals:=by obtain ⟨D,h1,h2⟩:=h;exact ⟨D,h1.kept hg hne,h2⟩
theorem RM {D:DataW Unit} {vals:List Int} {k:Int} (h2:Maps.IsMap D) (h3:∀k,aP k→D.atKey (.int .i64 k) (.lit (.int .i64 0))=.lit (.int .i64 (vals.count k:Nat))) (h4:∀k,aP k→Maps.has D (.int .i64 k)=decide (k∈vals)) {W:World} {b:Nat}
 (hown:W.ownsMap Tryz.prog 3 (plainElem Tryz.prog 3) b (vals.length+1) (D.put (.int .i64 k) (.lit (.int .i64 ((vals.count k:Nat)+1))))):Cm W b (vals++[k]):=by
 refine ⟨_,by rw[List.length_append];exact hown,h2.put _ _,fun q hq=>?_,fun q hq=>?_⟩
 ·by_cases e:q=k
  ·subst e
   rw[Maps.atKey_put_same h2 (uP q),List.count_append,List.count_singleton_self];push_cast;rfl
  ·rw[Maps.atKey_put_other (fun h=>e (by injection h)),h3 q hq,List.count_append,List.count_eq_zero_of_not_mem (show q∉[k] by simpa using e),Nat.add_zero]
 ·by_cases e:q=k
  ·subst e
   rw[Maps.has_put_same h2 (uP q)];simp
  ·rw[Maps.has_put_other (fun h=>e (by injection h)),h4 q hq]
   simp[e]
def Marks (B:Nat):List Deferred→World→Prop
 |[],_=>True
 |d::ds,W=>(∃D,B≤D∧d={target:=.collected D,args := #[]}∧W.heap[D]?=some (.deferred (some []))∧∀d'∈ds,d'.target≠.collected D)∧Marks B ds W
theorem Marks.step {B:Nat} {W W':World}:∀ {ds:List Deferred},Marks B ds W→(∀D,B≤D→W.heap[D]?=some (.deferred (some []))→W'.heap[D]?=some (.deferred (some [])))→Marks B ds W'
 |[],_,_=>trivial
 |_::_,⟨⟨D,h1,h2,h3,h4⟩,h5⟩,hk=>⟨⟨D,h1,h2,hk D h1 h3,h4⟩,h5.step hk⟩
theorem Marks.below {B:Nat} {W W':World} {ds:List Deferred} (h:Marks B ds W) (hb:Bw W W'):Marks B ds W':=
 h.step fun D _ hD=>(hb.block D (Array.getElem?_eq_some_iff.1 hD).1).trans hD
theorem Marks.fresh {B:Nat} {W:World} {D:Nat} (hD:W.heap.size≤D):∀ {ds:List Deferred},Marks B ds W→∀d'∈ds,d'.target≠.collected D
 |[],_=>fun d' h=>by simp at h
 |_::_,⟨⟨D',h1,h2,h3,h4⟩,h5⟩=>fun d' hd=>by
  rw[List.mem_cons] at hd;rcases hd with rfl|hd
  ·subst h2
   intro e;simp only[Target.collected.injEq] at e;have:=(Array.getElem?_eq_some_iff.1 h3).1;omega
  ·exact h5.fresh hD d' hd
def rT (B:Nat) (W W':World):Prop:=Below B W W'∧∀(k:Nat) (o:Obj),W.heap[k]?=some o→o.isCells=true→W'.heap[k]?=some o
theorem rT.refl (B:Nat) (W:World):rT B W W:=⟨aH,fun _ _ h _=>h⟩
theorem kU {B n:Nat} {P:Program} {fn:Func} {tmps:Array Value} {R:Ending→World→Prop}:∀ {ds:List Deferred} {W:World},Marks B ds W→(∀W',rT B W W'→∃v,(results fn tmps).run P W'=.ok v W'∧R (.returned v) W') →
 LeavesInM Fence.wide n P fn tmps R ds .returning W
 |[],W,_,h=>h W (rT.refl B W)
 |d::ds,W,⟨⟨D,h1,h2,h3,h4⟩,h5⟩,h=>by
  subst h2;refine ⟨by simp,.inl ⟨D,_,rfl,run_takeDeferred h3,?_⟩⟩;refine kU (B:=B) (marks_put h4 h5) fun W' hs=>?_;refine h W' ⟨?_,fun k o hk hc=>?_⟩
  ·refine Below.trans ?_ hs.1
   have hg:W.grownBy (W.putObj D (.deferred none)) (some D):=grownBy_putObj' _ _ _;exact ⟨hg.os,hg.tape,hg.output,hg.size,fun k hk=>World.putObj_heap_other (by omega)⟩
  ·refine hs.2 k o ((World.putObj_heap_other (fun e=>?_)).trans hk) hc
   rw[e,h3] at hk;cases hk;cases hc
where
 marks_put {B:Nat} {W:World} {D:Nat} {o:Obj}:∀ {ds:List Deferred},(∀d'∈ds,d'.target≠.collected D)→Marks B ds W→Marks B ds (W.putObj D o)
 |[],_,_=>trivial
 |d::ds,hn,⟨⟨D',h1,h2,h3,h4⟩,h5⟩=>⟨⟨D',h1,h2,(World.putObj_heap_other (fun e=>by
  refine hn d (by simp) ?_;rw[h2,e])).trans h3,h4⟩,marks_put (fun d' hd=>hn d' (by simp[hd])) h5⟩
structure My (W0:World) (B:Nat) (vals:List Int) (M:Nat→Prop) (pre:List az) (W:World):Prop where
 map:Cm W B (vals++ij pre)
 m1:¬M B
 old:∀k,k<W0.heap.size→k≠B→W.heap[k]?=W0.heap[k]?
 below:Below B W0 W
theorem My.kept {W0:World} {B:Nat} {vals:List Int} {M M':Nat→Prop} {pre:List az} {A C:World} {row:Option Nat} (h:My W0 B vals M pre A) (hB:B<W0.heap.size) (hg:A.grownBy C row) (hr:∀r,row=some r→W0.heap.size≤r) (hn:New M M' A C):My W0 B vals M' pre C:=by
 have hne:∀k,k<W0.heap.size→some k≠row:=fun k hk e=>by have:=hr k e.symm;omega
 have hsz:=h.below.size;refine ⟨h.map.kept hg (hne B hB),fun hm=>?_,fun k hk hk2=>(hg.block k (by omega) (hne k hk)).trans (h.old k hk hk2),jE h.below (by omega) hg (fun b hb=>hne b (by omega))⟩;rcases hn _ hm with hm|hm
 ·exact h.m1 hm
 ·omega
def Cn (x:az):List Value:=[.int .i64 (x.1%1000000000000),.int .i64 x.2]
def RN (x y:az):Int:=x.1%1000000000000-y.1%1000000000000
theorem aj3:Go.Sort.SWO (Go.Proofs.ltOf RN):=by refine ⟨fun x=>?_,fun x y z h1 h2=>?_,fun x y z h1 h2=>?_⟩ <;> unfold Go.Proofs.ltOf RN at * <;> simp only[decide_eq_true_eq,decide_eq_false_iff_not] at * <;> omega
theorem GU (a b c e:Int) (ha:0≤a∧a<1000000000000) (hc:0≤c∧c<1000000000000) (w:World):Calls Tryz.prog 124 #[.agg #[.int .i64 a,.int .i64 b],.agg #[.int .i64 c,.int .i64 e]] w fun en w'=>
 en=.returned (.int .i64 (a-c))∧w'=(w.alloc (.cells #[.int .i64 a,.int .i64 b] 82)).alloc (.cells #[.int .i64 c,.int .i64 e] 82):=by
 have hw:wrap64 (a-c)=a-c:=by unfold wrap64;omega
 go_enter Tryz.func124,Tryz.ntmps124;go_wp2_with fail;go_ret;exact ⟨rfl,rfl⟩
theorem RO (w:World) (a b:Obj):(w.alloc a).alloc b=Go.Sort.grow w #[a,b]:=by rw[Go.Sort.alloc_eq_grow,Go.Sort.alloc_eq_grow,Go.Sort.grow_grow];rfl
theorem yX (w:World) (g n:Nat) (d:Array az) (os:Array Obj):w.grownBy (Go.Proofs.sortWorldK Cn 2 w g 0 n d os) (some g):=by refine ⟨rfl,rfl,rfl,Go.Proofs.size_sortWorldK_c Cn 2 w g 0 n d os,fun k hk hne=>?_⟩;unfold Go.Proofs.sortWorldK;rw[Go.Sort.heap_grow_old _ _ (by rw[Go.Sort.size_putRowK];exact hk)];unfold Go.Sort.putRowK Go.Sort.putRow Go.Sort.mapBlock;show (w.heap.modify g _)[k]?=_;rw[Array.getElem?_modify];rw[if_neg (fun e=>hne (by rw[e]))]
theorem RP (g cap B:Nat) (l:List az) (w:World) (hown:w.ownsRow B 82 2 (.slice (some ⟨g,0,none⟩) l.length cap) l.length (bN l).flatten) (hb:∀x∈l,0≤x.1∧x.1<1000000000000) (hl:l.length≤1000000) :
 Calls Tryz.prog 123 #[.slice (some ⟨g,0,none⟩) l.length cap,.func (.func 124) #[] #[]] w fun e w'=>e=.returned (.tuple #[]) ∧
  ∃l':List az,l'.Perm l∧l'.Pairwise (fun a b=>a.1≤b.1)∧ee w' (.slice (some ⟨g,0,none⟩) l'.length cap) l'∧w.grownBy w' (some g):=by
 have hg:=(hown.lt g rfl).2;obtain ⟨cur,hblk,_,hc1,hc2,_⟩:=bp hown;have hH:Go.Sort.HoldsK Cn 2 w g 0 l.toArray:=by
  intro j hj;rw[Go.Sort.size_flatK] at hj;have hj':j<l.length*2:=by simpa using hj
  have hl2:=vR l;refine ⟨?_,NT hblk _⟩;rw[Nat.zero_add,bJ hown j (by omega),Go.Sort.get_flatK _ _ _ _ hj];have hi:j/2<l.length:=by omega
  have e1:l.toArray[j/2]! = l[j/2]:=by rw[getElem!_pos _ _ (by simpa using hi)];simp
  rw[e1];obtain ⟨p1,p2⟩:=tu l (j/2) _ (List.getElem?_eq_getElem hi);obtain ⟨m1,m2⟩:=hb l[j/2] (List.getElem_mem hi);unfold Cn;rw[Int.emod_eq_of_lt m1 m2];rcases Nat.mod_two_eq_zero_or_one j with h|h
  ·have e2:j/2*2=j:=by omega
   rw[h];rw[e2,List.getElem?_eq_getElem (by omega)] at p1
   simpa using p1
  ·have e2:j/2*2+1=j:=by omega
   rw[h];rw[e2,List.getElem?_eq_getElem (by omega)] at p2
   simpa using p2
 have aj4:Go.Proofs.CmpLays Tryz.prog 124 #[] Cn 2 RN g 0 l.toArray.size w:=by intro m os dk _ x y;have hx:=Int.emod_nonneg x.1 (show (1000000000000:Int)≠0 by decide);have hx2:=Int.emod_lt_of_pos x.1 (show (0:Int)<1000000000000 by decide);have hy:=Int.emod_nonneg y.1 (show (1000000000000:Int)≠0 by decide);have NZ:=Int.emod_lt_of_pos y.1 (show (0:Int)<1000000000000 by decide);refine (GU _ x.2 _ y.2 ⟨hx,hx2⟩ ⟨hy,NZ⟩ _).mono ?_;rintro e w' ⟨rfl,rfl⟩;exact ⟨rfl,0,_,RO _ _ _⟩
 have hsz:l.toArray.size=l.length:=by simp
 have X5:=Go.Proofs.AnyQ.slices_SortFunc Tryz.adz 2 Tryz.isAgg82 Tryz.sizeOf82 Cn (fun _=>rfl) (fun x v hv=>by unfold Cn at hv;simp only[List.mem_cons,List.not_mem_nil,or_false] at hv;rcases hv with rfl|rfl <;> rfl)
  RN aj3 124 #[] g 0 cap l.toArray w (enters_of Tryz.func124 (by kernel_rfl) rfl) aj4 hH hg (by rw[hsz];omega)
 rw[hsz] at X5;refine X5.mono ?_;rintro e w' ⟨rfl,d',n,os,hp,hs,rfl⟩;obtain ⟨Vn,_,XW⟩:=hp;have adA:d'.size=l.length:=by rw[Vn];simp
 have GV:d'.toList.Perm l:=by
  have e1:d'.extract 0 l.length=d':=by rw[← adA];simp
  have e2:l.toArray.extract 0 l.length=l.toArray:=by simp
  rw[e1,e2] at XW
  simpa using XW
 have tL:∀x∈d'.toList,0≤x.1∧x.1<1000000000000:=fun x hx=>hb x (GV.mem_iff.1 hx);have hat:∀i (hi:i<d'.size),d'[i]! = d'[i]:=fun i hi=>getElem!_pos d' i hi;refine ⟨rfl,d'.toList,GV,?_,⟨some ⟨g,0,none⟩,cap,rfl,?_,hc2,fun i x hx=>⟨g,0,rfl,?_⟩⟩,yX w g n d' os⟩
 ·rw[List.pairwise_iff_getElem]
  intro i j hi hj xS;simp only[Array.length_toList] at hi hj;have h1:=hs i j dQ xS (by omega);rw[hat i hi,hat j hj] at h1;unfold Go.Proofs.ltOf RN at h1;simp only[decide_eq_false_iff_not] at h1;have m1:=tL d'[i] (by simp);have m2:=tL d'[j] (by simp);rw[Int.emod_eq_of_lt m1.1 m1.2,Int.emod_eq_of_lt m2.1 m2.2] at h1;simp only[Array.getElem_toList];omega
 ·simp only[Array.length_toList];omega
 ·have hh:=Go.Proofs.holdsK_sortWorldK_c Cn 2 w g 0 l.toArray d' n os hH hg (by rw[adA] ;simp)
  obtain ⟨hi,Gj⟩:=List.getElem?_eq_some_iff.1 hx;have hi':i<d'.size:=by simpa using hi
  have aj5:d'[i]=x:=by rw[← Gj];simp
  have h0:=(hh.cell (i:=i) (c:=0) hi' (by omega)).1;have h1:=(hh.cell (i:=i) (c:=1) hi' (by omega)).1;rw[hat i hi',aj5] at h0 h1;have m:=tL x (List.mem_of_getElem? hx);have he:Cn x=[.int .i64 x.1,.int .i64 x.2]:=by unfold Cn;rw[Int.emod_eq_of_lt m.1 m.2]
  rw[he] at h0 h1;exact ⟨by simpa using h0,by simpa using h1⟩
structure oA (V:List Int) (left:Lit→Bool) (pre:List az):Prop where
 nd:(pre.map Prod.fst).Nodup
 ok:∀p∈pre,p.1∈V∧p.2=(V.count p.1:Nat)
 rest:∀k,aP k→(left (.int .i64 k)=true↔k∈V∧k∉pre.map Prod.fst)
theorem oA.nil {V:List Int} {left:Lit→Bool} (h:∀k,aP k→left (.int .i64 k)=decide (k∈V)):oA V left []:=by refine ⟨by simp,fun p hp=>by simp at hp,fun k hk=>?_⟩;rw[h k hk];simp
theorem oA.next {V:List Int} {left:Lit→Bool} {pre:List az} (h:oA V left pre) {x c:Int} (hx:aP x) (hl:left (.int .i64 x)=true) (hc:c=(V.count x:Nat)):oA V (fun z=>left z&&!z.sameKey (.int .i64 x)) (pre++[(x,c)]):=by
 obtain ⟨hxv,hxp⟩:=(h.rest x hx).1 hl;refine ⟨?_,fun p hp=>?_,fun k hk=>?_⟩
 ·rw[List.map_append,List.nodup_append]
  refine ⟨h.nd,by simp,fun a ha b hb=>?_⟩;simp only[List.map_cons,List.map_nil,List.mem_singleton] at hb;subst hb;rintro rfl;exact hxp ha
 ·rw[List.mem_append,List.mem_singleton] at hp
  rcases hp with hp|rfl
  ·exact h.ok p hp
  ·exact ⟨hxv,hc⟩
 ·have hs:(Lit.int .i64 k).sameKey (.int .i64 x)=decide (k=x):=by
   rw[Bool.eq_iff_iff,Go.WideAt.sameKey_iff (uP x)];simp
  simp only[hs,Bool.and_eq_true,h.rest k hk,Bool.not_eq_true',decide_eq_false_iff_not,List.map_append,List.map_cons,List.map_nil,List.mem_append,List.mem_singleton,not_or];constructor
  ·rintro ⟨⟨a,b⟩,c⟩;exact ⟨a,b,c⟩
  ·rintro ⟨a,b,c⟩;exact ⟨⟨a,b⟩,c⟩
theorem oA.bd {V:List Int} {left:Lit→Bool} {pre:List az} (h:oA V left pre) (hV:∀k∈V,0≤k∧k<10000000):∀x∈pre,0≤x.1∧x.1<1000000000000:=fun x hx=>by have:=hV x.1 (h.ok x hx).1;omega
theorem oA.tally {V:List Int} {left:Lit→Bool} {pre l':List az} (h:oA V left pre) (hd:∀kl,left kl=false) (hV:∀k∈V,0≤k∧k<10000000) (hp:l'.Perm pre) (hs:l'.Pairwise (fun a b=>a.1≤b.1)):jH l' V:=by
 have qj:(l'.map Prod.fst).Nodup:=(hp.map Prod.fst).nodup_iff.2 h.nd;have hne:l'.Pairwise (fun a b=>a.1≠b.1):=by unfold List.Nodup at qj;rw[List.pairwise_map] at qj;exact qj
 refine ⟨(hs.and hne).imp fun {a b} h=>by omega,fun p=>?_⟩;rw[hp.mem_iff];constructor
 ·exact h.ok p
 ·rintro ⟨h1,h2⟩
  have hk:p.1∈pre.map Prod.fst:=by
   by_cases hk:p.1∈pre.map Prod.fst
   ·exact hk
   ·have:=(h.rest p.1 (by have:=hV p.1 h1;unfold aP;omega)).2 ⟨h1,hk⟩
    rw[hd] at this;cases this
  rw[List.mem_map] at hk;obtain ⟨q,hq,he⟩:=hk;have:=(h.ok q hq).2;rw[he,← h2] at this;obtain ⟨a,b⟩:=p;obtain ⟨c,d⟩:=q;simp only at he this;subst he;subst this;exact hq
theorem GW:∀ {a b:List Int},a.Nodup→(∀x∈a,x∈b)→a.length≤b.length
 |[],_,_,_=>Nat.zero_le _
 |x::a,b,hn,h=>by rw[List.nodup_cons] at hn;have hx:=h x (by simp);have h1:=GW (a:=a) (b:=b.erase x) hn.2 fun y hy=>(List.mem_erase_of_ne (fun e=>hn.1 (by rw[← e];exact hy))).2 (h y (by simp[hy]));have h2:=List.length_erase_of_mem hx;have h3:=List.length_pos_of_mem hx;rw[List.length_cons];omega
theorem oA.len {V:List Int} {left:Lit→Bool} {pre:List az} (h:oA V left pre):pre.length≤V.length:=by
 have h1:(pre.map Prod.fst).length≤V.length:=by refine GW h.nd fun k hk=>?_;rw[List.mem_map] at hk;obtain ⟨p,hp,rfl⟩:=hk;exact (h.ok p hp).1
 rwa [List.length_map] at h1
theorem Ag {l:List dy} (h:dR l=true):∀k∈df l,0≤k∧k<10000000:=by intro k hk;unfold df at hk;rw[List.mem_flatten] at hk;obtain ⟨q,hq,hk⟩:=hk;rw[List.mem_map] at hq;obtain ⟨d,hd,rfl⟩:=hq;exact Af ((dw.1 h).1 d hd) k hk
attribute [local go_sem] Oper.semAt_some
def Ah (w:World) (x:List dy) (e:Ending) (w':World):Prop:=∃v',e=.returned v'∧ee w' v' (aY x)∧(∀k,v'.ownBlock=some k→w.heap.size≤k)∧Bw w w'
theorem GX {x:List dy} {k:Nat} {n:Nat} (h:(df x).length≤n):(df (x.take k)).length≤n:=by
 have e:(df x).length=(df (x.take k)).length+(df (x.drop k)).length:=by unfold df;rw[← List.length_append,← List.flatten_append,← List.map_append,List.take_append_drop]
 omega
theorem oZ {x:List dy} (h:bO x) (hk:x.length≤64):(df x).length≤600000:=by
 have key:∀l:List dy,(∀d∈l,(aB d.map).length≤2000)→(df l).length≤l.length*2000:=fun l=>by
  induction l with
  |nil=>intro _;simp[df]
  |cons a l ih=>
   intro hx;have h1:=hx a (by simp);have h2:=ih (fun d hd=>hx d (by simp[hd]));have e:df (a::l)=ij (aB a.map)++df l:=by simp[df]
   rw[e,List.length_append,List.length_cons];unfold ij;rw[List.length_map];omega
 have:=key x h;omega
def Zd (w1:World) (x:List dy) (k:Nat) (ds:List Deferred) (wr:World):Prop:=
 Cm wr w1.heap.size (df (x.take k))∧Boxed wr (w1.heap.size+1) 157 (.map (some w1.heap.size))∧Marks w1.heap.size ds wr∧Bw w1 wr
def RQ (w1:World) (q:Nat) (V:List Int) (ds:List Deferred) (cnt:Nat) (v:Value) (r:Nat) (W:World):Prop:=
 ∃(D:DataW Unit) (left:Lit→Bool) (pre:List az),W.ranges Tryz.prog 3 (plainElem Tryz.prog 3) w1.heap.size r V.length D left cnt∧(W.ownsRow q 82 2 v pre.length (bN pre).flatten∧v≠.slice none 0 0)∧oA V left pre ∧
  (∀k,aP k→D.atKey (.int .i64 k) (.lit (.int .i64 0))=.lit (.int .i64 (V.count k:Nat)))∧Marks w1.heap.size ds W∧Bw w1 W
theorem adC {k:Int} (h:(Lit.int .i64 k).wf=true):aP k:=by simp[Lit.wf,IntKind.min,IntKind.max,IntKind.signed,IntKind.bits] at h;unfold aP;omega
theorem gw {B:Nat} {W W':World} (h:rT B W W'):dJ W W':=fun a v hv=>by
 have hlt:=World.block_lt_of_cell? _ _ hv;obtain ⟨o,ho⟩:∃o,W.heap[a.block]?=some o:=⟨_,Array.getElem?_eq_getElem hlt⟩
 have hc:o.isCells=true:=by unfold World.cell? at hv;rw[ho] at hv;cases o <;> first|rfl|simp at hv
 exact (World.cell?_of_block ((h.2 _ o ho hc).trans ho.symm)).trans hv
def Ze (p:Option Addr) (N cp b k:Nat) (ds:List Deferred) (a:Act):Prop:=
 ∃u5 u7 u18 u19 u20 u21 u22 u23 u24 u25 u26 u27 u28 u29 u30 u31 u32:Value,a={tmps := #[.slice p N cp,uu,.slice none 0 0,.pointer (some ⟨b+1,0,none⟩),uu,u5,uu,u7,uu,uu,uu,.slice p N cp,.bool true,.bool false,.map (some b),.slice p N cp,.int .i64 N,.int .i64 (k:Nat),u18,u19,u20,u21,u22,u23,u24,u25,u26,u27,u28,u29,u30,u31,u32,uu,uu,uu,uu,uu,uu,uu,uu,uu,uu,uu,uu,uu,uu,uu,uu,uu,uu,uu],defers:=ds}
theorem uQ (x:List dy) (v1:Value) (w:World) (h1:eU w v1 x) (l1:zV x) (l2:dR x=true→(df x).length≤600000):Calls Tryz.prog 74 #[v1] w (Ah w x):=by
 have xJ:=aa l1;have nW:=aa l2;have QG:=aa h1;have Rv := @run_makeMap Tryz.prog;obtain ⟨p,cp,rfl,a1,a2,ha⟩:=h1;have HA:=aa ha;obtain ⟨N,hN⟩:=aG x.length;rw[hN] at a1 QG;rw[hN];have hlc:=fK (n:=N) a2;have HN:=aa hN;clear ha hN a1 a2 l1 l2;rw[← callsIn_wide (n:=6)];refine callsIn_of_wp_marks Tryz.func74 rfl trivial ?_ rfl;simp only[Tryz.ntmps74,List.size_toArray,List.length_cons,List.length_nil,Nat.reduceAdd,Nat.reduceSub,Array.replicate_succ,Array.replicate_zero,List.push_toArray,List.append_toArray,List.nil_append,List.cons_append];gi_wp2_with fail;refine ⟨trivial,?_⟩;refine (callsIn_wide.2 (CV x _ _ QG xJ)).mono ?_;rintro e w1 ⟨rfl,hb⟩;have aZ:=aa hb;clear hb;cases hm:dR x with
 |false=>have HF:=aa (show aY x=[] by unfold aY;rw[hm,if_neg (by simp)]);clear hm;gi_wp2_with fail;refine ⟨_,results_tmp rfl _ _ _,_,rfl,?_,fun k hk=>(by cases hk),aZ⟩;rw[HF.o];exact ⟨none,0,rfl,aT,by unfold maxLen;omega,fun i x hx=>by simp at hx⟩
 |true=>
  have HM:=aa hm;have aka:N≤64:=by have:=(dw.1 hm).2.2;have:=HN.o;omega
  clear hm;gi_wp2_with fail;obtain ⟨W1,hW1⟩:∃W,(w1.alloc (.map #[] 0)).alloc (.cells #[.map (some w1.heap.size)] 157)=W:=⟨_,rfl⟩
  have hc0:Zd w1 x 0 [] W1:=by
   rw[← hW1];refine ⟨?_,?_,trivial,(aq).alloc (by simp) _⟩
   ·rw[List.take_zero];exact (Cm.new w1).kept (World.grownBy_alloc _ _ none) (by simp)
   ·have:=Boxed.new (w1.alloc (.map #[] 0)) 157 (.map (some w1.heap.size))
    rwa [World.size_alloc] at this
  rw[hW1];clear hW1;refine wpIn_loop (fun a wr=>∃(k:Nat) (ds:List Deferred),Ze p N cp w1.heap.size k ds a∧k≤N∧Zd w1 x k ds wr) (fun a _=>N-(intOf (a.tmps.getD 17 uu)).toNat) ⟨0,[],⟨_,_,_,_,_,_,_,_,_,_,_,_,_,_,_,_,_,rfl⟩,dQ,hc0⟩ ?_;clear hc0;rintro a wr ⟨k,ds,⟨u5,u7,u18,u19,u20,u21,u22,u23,u24,u25,u26,u27,u28,u29,u30,u31,u32,rfl⟩,hk,hmap,fN,X6,hb⟩;have VI:=aa hmap;have sO:=aa fN;have HMS:=aa X6;have HB:=aa hb;clear hmap X6 hb;by_cases hlt:k<N
  case neg=>
   obtain rfl:k=N:=by omega
   have adD:decide ((k:Int)<(k:Int))=false:=(by simp);have hV:df (x.take k)=df x:=by rw[List.take_of_length_le (by rw[HN.o];exact aT)]
   have QJ:=aa (show (df (x.take k)).length≤600000 from GX (nW HM));rw[hV] at VI QJ;obtain ⟨V,hVV⟩:=aG (df x);rw[hVV] at VI QJ;have HVV:=aa hVV;obtain ⟨D,d1,d2,d3,d4⟩:=VI.o;have HD:=aa (And.intro d2 (And.intro d3 d4));have HD1:=aa d1;obtain ⟨sz,hsz⟩:∃n,Maps.size D=n:=⟨_,rfl⟩
   have arA:sz≤600000:=by have h1:=d1.size_le;have:=QJ.o;omega
   have cb:=fN.cell;obtain ⟨i0,hi,hz0,hz1,hz2⟩:=info_parts Gf;obtain ⟨wm,jP,X7,hg0⟩:=run_make_own (P:=Tryz.prog) wr wr.heap.size 76 82 i0 (.agg #[.int .i64 0,.int .i64 0]) 2 Tryz.underlying76 hi hz0 hz1 .i64 .i64 sz (by rw[hz2];omega) (by unfold maxLen;omega) aT;have adE:(Instr.makeSlice 76 (.int .i64 0) (.int .i64 sz)).run Tryz.prog wr=.ok (.slice (some ⟨wr.heap.size,0,none⟩) 0 sz) wm:=jP;have cb2:=hg0.cell cb (by simp);have HOW:=aa X7;have FF:=aa hg0;have C2:=aa (d1.kept hg0 (by simp));have mW:=aa hsz;have RR:=C2.o;clear hV hVV d2 d3 d4 jP X7 hg0 hi hz0 hz1 hz2 fN Rv;gi_wp2_with (first|(gi_at_len;refine wpListIn_len_own _ rfl _ _ rfl 3 3 Tryz.underlying157 (plainElem Tryz.prog 3) w1.heap.size V.length D rfl d1 ?_)|(gi_at_range;refine wpListIn_range_own _ rfl _ _ rfl 3 3 (Maps.int_keyed Tryz.underlying3) Tryz.underlying157 (plainElem Tryz.prog 3) w1.heap.size V.length D rfl RR ?_));intro w3 hrg hg3 hs3;have kR:=aa (show w.heap.size≤w1.heap.size∧w1.heap.size+1<wr.heap.size∧wr.heap.size<wm.heap.size∧wm.heap.size<w3.heap.size from ⟨aZ.size,sO.lt,(HOW.lt _ rfl).2,by omega⟩);have uR:=aa (show RQ w1 wr.heap.size V ds sz (.slice (some ⟨wr.heap.size,0,none⟩) 0 sz) wm.heap.size w3 from by
    refine ⟨D,Maps.has D,[],hrg,⟨HOW.kept hg3 (.inr (by simp[Value.ownBlock])),by simp⟩,oA.nil (HD.2.2),HD.2.1,?_,?_⟩
    ·exact HMS.step fun D Ut Ai=>(hg3.block D (by have:=(Array.getElem?_eq_some_iff.1 Ai).1;have:=kR.o;omega) (by simp)).trans ((FF.block D (Array.getElem?_eq_some_iff.1 Ai).1 (by simp)).trans Ai)
    ·exact HB.trans (jE (jE aH (by have:=kR.o;omega) FF (by simp)) (by have:=kR.o;omega) hg3 (by simp)))
   clear hrg hg3 hs3 RR d1 adE cb cb2 HOW HD FF C2 HD1 HMS HB;gi_wp2_with fail;obtain ⟨q,hq⟩:=aG wr.heap.size;obtain ⟨r,hr⟩:=aG wm.heap.size;rw[hq,hr] at uR ⊢;rw[hr] at kR;rw[hq] at kR;clear hq hr;gi_loopg [8] sz (fun g v wr2=>RQ w1 q V ds g v r wr2)
   case atStart=>exact uR.o
   case round=>
    obtain ⟨D,left,pre,hrg,⟨hown,hnil⟩,hrl,hat,X6,hb⟩:=hrel;obtain ⟨g5,c5,rfl⟩:∃g5 c5,u8=.slice (some ⟨g5,0,none⟩) pre.length c5:=by
     rcases aK hown with ⟨h,_,_⟩|h
     ·exact absurd h hnil
     ·exact h
    have HOW:=aa hown;have Aj:=aa hrl;have Kl:=aa hat;have HMS:=aa X6;have HB:=aa hb;have HRG:=aa hrg;have om:=aa (show pre.length≤600000 by have h1:=hrl.len;have:=QJ.o;omega);obtain ⟨np,VJ⟩:∃n,pre.length=n:=⟨_,rfl⟩
    rw[VJ] at HOW om ⊢;have VK:=aa VJ;clear hown hnil hrl hat X6 hb VJ uR;gi_wp2_with (gi_at_next;refine wpListIn_next_ranges_ii _ rfl _ rfl 3 3 .i64 .i64 (Maps.int_keyed Tryz.underlying3) Tryz.underlying3 Tryz.underlying3 w1.heap.size r V.length D left _ rfl hrg ?_ ?_)
    ·intro hc0 hl0
     have HL0:=aa hl0;clear hc0 hl0 hrg;gi_wp2_with fail;have iO:=Aj.bd (by rw[← HVV.o];exact Ag HM);have hso:=RP g5 c5 q pre wr (by rw[VK.o];exact HOW) iO (by rw[VK.o];have:=om.o;omega);rw[VK.o] at hso;refine ⟨trivial,?_⟩;refine (callsIn_wide.2 hso).mono ?_;rintro e w5 ⟨rfl,l',hp,hs,adG,hg5⟩;have hl':l'=aY x:=jH.one (Aj.tally HL0 (by rw[← HVV.o];exact Ag HM) hp hs) (by rw[← HVV.o];exact lH HM);have XK:l'.length=np:=hp.length_eq.trans VK.o;have zk:=aa (show ee w5 (.slice (some ⟨g5,0,none⟩) np c5) (aY x) by rw[← hl',← XK];exact adG);have hgq:q≤g5:=(HOW.lt g5 rfl).1;have bA:=aa (show Bw w1 w5 from jE HB HB.size hg5 (fun b hb e=>by injection e with e;have:=kR.o;omega));obtain ⟨ake,C3,_⟩:=bp HOW.o;have QM:=aa (show Marks w1.heap.size ds w5 from HMS.step fun D2 _ Ai=>(hg5.block D2 (Array.getElem?_eq_some_iff.1 Ai).1 (fun e=>by injection e with e;subst e;rw[C3] at Ai;cases Ai)).trans Ai);have HGQ:=aa (show w.heap.size≤g5 by have:=kR.o;have:=aZ.size;omega);clear iO hso hp hs adG hl' XK hg5 C3;gi_wp2_with fail;refine kU QM fun W' hs=>⟨.slice (some ⟨g5,0,none⟩) np c5,by simp[results,Tryz.results74,go_sem],_,rfl,zk.o.keep (gw hs),fun k hk=>(by injection hk with hk;rw[← hk];exact HGQ.o),?_⟩
     exact nj aZ (bA.trans hs.1) aZ.size
    ·intro y c w4 adI Zf hwc hly adJ adK adL hg4 X8 hen
     have Ch:=adC Zf;have hcc:c=(V.count y:Nat):=by have:=(adJ _).symm.trans (Kl y Ch);injection this with this;injection this
     have hrn:=Aj.next Ch hly hcc;obtain ⟨ake,C3,_⟩:=bp HOW.o;have hgq:q≤g5∧g5<wr.heap.size:=HOW.lt g5 rfl;have Zg:r≠g5:=fun e=>by obtain ⟨_,_,_,_,_,_,_,_,_,h5,_⟩:=HRG.o;rw[e,C3] at h5;cases h5
     have adM:=HOW.kept hg4 (.inr (by simp[Value.ownBlock];exact fun e=>Zg e.symm));obtain ⟨g6,c6,w6,ra,ro,rg6,_⟩:=uL w4 q np _ pre y c adM (by have:=om.o;omega) (by have:=kR.o;omega);have adN:=(adK.alloc (.cells #[.int .i64 y,.int .i64 c] 82)).kept rg6 (by simp[Value.ownBlock];have:=kR.o;omega) (by simp[Value.ownBlock];exact Zg);have hr4:∀D2:Nat,wr.heap[D2]?=some (.deferred (some []))→w6.heap[D2]?=some (.deferred (some [])):=fun D2 Ai=>by
      have h1:w4.heap[D2]?=some (.deferred (some [])):=(hg4.block D2 (Array.getElem?_eq_some_iff.1 Ai).1 (fun e=>by
       injection e with e;obtain ⟨_,_,_,_,_,_,_,_,_,h5,_⟩:=HRG.o;rw[← e,Ai] at h5;cases h5)).trans Ai
      have h2:=alloc_old (o:=.cells #[.int .i64 y,.int .i64 c] 82) h1;exact (rg6.block D2 (Array.getElem?_eq_some_iff.1 h2).1 (fun e=>by
       have e:D2=g5:=(by simpa [Value.ownBlock] using e);subst e;rw[C3] at Ai;cases Ai)).trans h2
     have rU:=aa (show RQ w1 q V ds adI (.slice (some ⟨g6,0,none⟩) (np+1) c6) r w6 from
      ⟨D,_,pre++[(y,c)],adN,⟨by rw[List.length_append,VK.o];exact ro,by simp⟩,hrn,Kl,HMS.step fun D2 _ Ai=>hr4 D2 Ai,
       jE (jE (jE HB HB.size hg4 (fun b hb e=>by injection e with e;have:=kR.o;omega)) (by have:=kR.o;have:=hg4.size;omega) (World.grownBy_alloc _ _ none) (by simp)) (by have:=kR.o;have:=hg4.size;simp;omega) rg6 (fun b hb e=>by
        have e:b=g5:=(by simpa [Value.ownBlock] using e);have:=kR.o;omega)⟩)
     have GY:=aa ra;have VM:=aa adL;clear hrg Zf hwc hly adJ adK hg4 X8 Ch hcc hrn C3 hgq Zg adM ra ro rg6 adN hr4 adL;gi_wp2_with (gi_at_builtin;refine lx _ rfl _ _ _ rfl _ _ rfl rfl _ _ GY.o ?_);gi_roundg adI
     case measure=>exact VM.o
     case rel=>exact rU.o
  case pos=>
   have fO:(k:Int)<(N:Int):=(by omega);have QN:wrap64 ((k:Int)+1)=(k:Int)+1:=by unfold wrap64;omega
   obtain ⟨s,hs⟩:=fy (l:=x) (k:=k) (by rw[HN.o];exact hlt);obtain ⟨j1,j2,g,o,a,b,c,rfl,e0,e1,e2,e3,e4,e5⟩:=HA.o k s hs;obtain ⟨pu,nu,cu,pv,nv,cv,pw,nw,cw,rfl,rfl,rfl⟩:=bc e5;have r0:=ae (nj aZ HB aZ.size) e0;have r1:=ae (nj aZ HB aZ.size) e1;have r2:=ae (nj aZ HB aZ.size) e2;have r3:=ae (nj aZ HB aZ.size) e3;have r4:=ae (nj aZ HB aZ.size) e4;have HS:=aa hs;have HNA:=aa e5;have HSR:=aa ((dw.1 HM).1 s (List.mem_of_getElem? hs));have HST:=aa (xJ.o s (List.mem_of_getElem? hs));obtain ⟨S,hS⟩:=aG s.size;obtain ⟨I,hI⟩:=aG s.id;have vI:=aa hS;rw[hS] at r1;rw[hI] at r0;obtain ⟨W2,hW2⟩:∃W,wr.alloc (.cells #[.int .i64 I,.int .i64 S,.slice pu nu cu,.slice pv nv cv,.slice pw nw cw] 75)=W:=⟨_,rfl⟩
   have hb2:Bw wr W2:=by rw[← hW2];exact aq
   have b1:W2.heap[wr.heap.size]?=some (.cells #[.int .i64 I,.int .i64 S,.slice pu nu cu,.slice pv nv cv,.slice pw nw cw] 75 (0,0)):=by rw[← hW2];exact World.alloc_heap_new _ _
   obtain ⟨x0,x1,x2,x3,x4⟩:=NS b1;have bU:=aa hb2;have akf:=aa (Array.getElem?_eq_some_iff.1 b1).1;clear hs hS hI e0 e1 e2 e3 e4 e5 j1 j2 b1 hb2 fN;gi_wp2_with fail;clear hW2;refine ⟨trivial,?_⟩;refine (callsIn_wide.2 (zS _ _ _ 0 S _)).mono ?_;rintro e w' ⟨rfl,rfl⟩;gi_wp2_with fail;obtain ⟨W0,hW0⟩:∃W,((W2.alloc (.cells #[.slice pu nu cu,.slice pv nv cv,.slice pw nw cw] 73)).alloc (.cells #[.int .i64 0] 3)).alloc (.cells #[.int .i64 S] 3)=W:=⟨_,rfl⟩
   have hb3:=VA W2 (.slice pu nu cu) (.slice pv nv cv) (.slice pw nw cw) (.int .i64 0) (.int .i64 S);have hb0:Bw W2 W0:=by rw[← hW0];exact ((aq).alloc (by simp) _).alloc (by simp;omega) _
   rw[hW0] at hb3 ⊢;clear hW0;have mX:=aV bU hb0;have Kp:=aa (show w.heap.size≤w1.heap.size∧w1.heap.size+1<wr.heap.size∧wr.heap.size<W2.heap.size∧W2.heap.size≤W0.heap.size from ⟨aZ.size,sO.lt,akf,hb0.size⟩);have hseq:=zT 5 W2.heap.size (fun b=>b<w.heap.size) s.map 0 S _ _ _ W0 (HNA.keep (fun q v hv=>ar.2 ⟨World.block_lt_of_cell? _ _ hv,ae (nj (nj aZ HB aZ.size) mX (by have:=Kp.o;omega)) hv⟩)) (by have:=HST.o;unfold oX at this;omega) hb3.1 hb3.2.1 hb3.2.2;have rP:=aa (show jV s.map 0 S=aB s.map from Kr HSR vI);have QJ:=aa (show (df (x.take k)).length≤600000 from GX (nW HM));have HVB:=aa (Af HSR);have X9:=aa (show Cm W0 w1.heap.size (df (x.take k)) from VI.kept (aS mX none) (by simp));clear hb0 hb3 x0 x1 x2 x3 x4 r0 r1 r2 r3 r4;rw[rP.o] at hseq;refine iy (n:=6) (gf:=158) (lb := #[.pointer (some ⟨W2.heap.size,0,none⟩),.pointer (some ⟨W2.heap.size+1,0,none⟩),.pointer (some ⟨W2.heap.size+1+1,0,none⟩)]) (by omega) rfl (enters_of Tryz.func158 (by kernel_rfl) rfl) hseq ?hM (fun _=>rfl) (My W0 w1.heap.size (df (x.take k)))
    (fun _ _ _=>False) ?i1 ?i2 ?x1 ?x2 ?start
    (fun _ y a' _=>a'={tmps := #[.slice (some ⟨g,o,none⟩) N cp,uu,.slice none 0 0,.pointer (some ⟨w1.heap.size+1,0,none⟩),uu,.pointer (some ⟨wr.heap.size,0,none⟩),uu,.int .i64 y.2,uu,uu,uu,.slice (some ⟨g,o,none⟩) N cp,.bool true,.bool false,.map (some w1.heap.size),.slice (some ⟨g,o,none⟩) N cp,.int .i64 (N:Nat),.int .i64 (k:Nat),.bool true,.pointer (some ⟨g,o+k*5,none⟩),.agg #[.int .i64 I,.int .i64 S,.slice pu nu cu,.slice pv nv cv,.slice pw nw cw],.pointer (some ⟨wr.heap.size,2,none⟩),.agg #[.slice pu nu cu,.slice pv nv cv,.slice pw nw cw],.pointer (some ⟨wr.heap.size,1,none⟩),.int .i64 S,.func (.func 158) #[] #[.pointer (some ⟨W2.heap.size,0,none⟩),.pointer (some ⟨W2.heap.size+1,0,none⟩),.pointer (some ⟨W2.heap.size+1+1,0,none⟩)],.int .i64 y.1,.int .i64 y.2,u28,u29,u30,u31,u32,uu,uu,uu,uu,uu,uu,uu,uu,uu,uu,uu,uu,uu,uu,uu,uu,uu,uu,uu],defers:=[]}) ?ax ?assign ?body ?done ?stop
   case hM=>intro b hb;have:=Kp.o;omega
   case i1=>exact fun M M' s A B h hg hn=>h.kept (by have:=Kp.o;omega) hg (fun r e=>by cases e) hn
   case i2=>exact fun M s A B r o h hg hr ho hc=>h.kept (by have:=Kp.o;omega) hg (fun r' e=>by cases e;exact hr) (fun b hb=>.inl hb)
   case x1=>exact fun _ _ _ _ h _=>h
   case x2=>exact fun _ _ _ _ _ _ h _ _ _ _=>h
   case start=>refine ⟨by have:=X9.o;simpa [ij] using this,fun h=>by have:=Kp.o;omega,fun _ _ _=>rfl,aH⟩
   case ax=>exact fun M x a' A B r o h hg hr ho hc=>h
   case assign=>
    intro l M pre x W K hi hK
    dsimp only[VD]
    gi_wp2;exact hK _ _ ⟨rfl,rfl,rfl,aT,fun _ _ _=>rfl⟩ rfl
   case body=>
    rintro l M pre y a' W hi rfl hlen;have HI:=aa hi;have hpl:pre.length≤600000:=by have h1:=HST.o;have h2:=hlen.length_le;rw[List.length_append] at h2;unfold oX at h1;omega
    have fN:Boxed W (w1.heap.size+1) 157 (.map (some w1.heap.size)):=(hi.old _ (by have:=Kp.o;omega) (by omega)).trans ((mX.block _ (by have:=Kp.o;omega)).trans sO);have cb:=fN.cell;have hy:0≤y.2∧y.2<10000000:=HVB.o y.2 (by unfold ij;exact List.mem_map_of_mem (hlen.subset (by simp)));have Ch:aP y.2:=by unfold aP;omega
    obtain ⟨D,d1,d2,d3,d4⟩:=hi.map;have D2:=aa (And.intro d2 (And.intro d3 d4));obtain ⟨nv0,hnv⟩:∃n,(df (x.take k)++ij pre).length=n:=⟨_,rfl⟩
    have adP:nv0≤1300000:=by have:=QJ.o;rw[List.length_append] at hnv;unfold ij at hnv;rw[List.length_map] at hnv;omega
    rw[hnv] at d1;have hmx:nv0<maxLen:=by unfold maxLen;omega
    have HNV:=aa hnv;have akg:=aa adP;have hkey:=Maps.keyOf_int_mk Tryz.underlying3 (EI Ch);have HYB:=aa Ch;clear hi hseq d2 d3 d4 hnv adP fN hy Ch;gi_wp2_with (gi_at_lookup;refine wpListIn_lookup_own_int _ rfl _ _ 157 rfl 3 3 .i64 (Maps.int_keyed Tryz.underlying3) Tryz.underlying157 Tryz.underlying3 (Tryz.zeroValue3 _) w1.heap.size nv0 _ rfl d1 _ _ rfl hkey ?_);intro c hat hwc;have hcc:c=((df (x.take k)++ij pre).count y.2:Nat):=by have:=(D2.2.1 _ HYB).symm.trans hat;injection this with this;injection this with _ this;exact this.symm
    have ql:(df (x.take k)++ij pre).count y.2≤nv0:=by rw[← HNV.o];exact List.count_le_length
    have HCW:=aa (show wrap64 (c+1)=c+1 by have:=akg.o;unfold wrap64;omega);have Mz:=aa hcc;clear hat hwc hcc ql;gi_wp2_with (gi_at_mapUpdate;refine wpListIn_mapUpdate_own _ rfl _ _ _ 157 rfl 3 3 (Maps.int_keyed Tryz.underlying3) Tryz.underlying157 _ w1.heap.size nv0 _ rfl d1 hmx _ _ _ rfl rfl hkey _ [] (plainElem_int Tryz.underlying3 (wrap64_wf _)) ?_);intro w9 MA VN;rw[HCW.o,Mz.o] at MA;rw[← HNV.o] at MA;have RS:=aa (RM D2.1 D2.2.1 D2.2.2 MA);have Zh:=aa VN;clear MA VN d1;gi_wp2_with fail;refine ⟨KeepsFrom.of_grownBy Zh (fun j e=>by cases e;have:=Kp.o;omega),fA.grown Zh (fun r e=>by cases e;exact HI.m1),?_,HI.m1,fun k2 hk2 hne=>?_,?_⟩
    ·have:=RS.o
     rw[List.append_assoc] at this;unfold ij at this ⊢;rw[List.map_append];exact this
    ·exact (Zh.block k2 (by have:=HI.below.size;omega) (fun e=>hne (by injection e))).trans (HI.old k2 hk2 hne)
    ·exact jE HI.below (by have:=HI.below.size;have:=Kp.o;omega) Zh (fun b hb e=>by injection e with e;omega)
   case done=>
    rintro Dd M W hD hi hK;have RS:=aa hi.map;have km:=aa hi.below;have VO:=aa hi.old;have HK9:=aa hK;clear hi hK hseq;have HM0:=aa (HMS.below mX);have NA:=aa hD;have JQ:=aa (show Zd w1 x (k+1) ({target:=.collected Dd,args := #[]}::ds) W from by
     refine ⟨by rw[Ku HS.o];exact RS,(VO _ (by have:=Kp.o;omega) (by omega)).trans ((mX.block _ (by have:=Kp.o;omega)).trans sO),⟨⟨Dd,by have:=Kp.o;have:=NA.o;omega,rfl,HK9,Marks.fresh NA HM0⟩,HM0.step fun D Ut Ai=>?_⟩,?_⟩
     ·refine (VO D (Array.getElem?_eq_some_iff.1 Ai).1 (fun e=>?_)).trans Ai
      obtain ⟨_,⟨es,clock,h5,_⟩,_⟩:=X9.o;rw[e,h5] at Ai;cases Ai
     ·exact (HB.trans (gX mX (by have:=Kp.o;omega))).trans km)
    clear hD RS km VO HK9 HM0 NA;gi_wp2_with fail;refine ⟨⟨k+1,_,⟨_,_,_,_,_,_,_,_,_,_,_,_,_,_,_,_,_,rfl⟩,by omega,JQ⟩,?_⟩;show N-(intOf (.int .i64 ((k:Int)+1))).toNat<N-(intOf (.int .i64 (k:Int))).toNat;exact dU hlt
   case stop=>exact fun D c pre W hD hp h hK=>h.elim
theorem GZ (x:List dy) (v1:Value) (w:World) (h1:eU w v1 x) (l1:bO x):Calls Tryz.prog 74 #[v1] w (Ah w x):=
 uQ x v1 w h1 (fun d hd=>(l1 d hd).big) fun hm=>oZ l1 (dw.1 hm).2.2
end Go.Proofs.YtbigkioechkngaaGreat
namespace Go.Proofs.YtbigkioechkngaaGreat
open Go.RowKit
def cN (W:World) (B:Nat) (x y z:Value):Prop:=W.heap[B]?=some (.cells #[x,y,z] 73 (0,0))
theorem cN.lt {W:World} {B:Nat} {x y z:Value} (h:cN W B x y z):B<W.heap.size:=(Array.getElem?_eq_some_iff.1 h).1
theorem cN.cells {W:World} {B:Nat} {x y z:Value} (h:cN W B x y z):W.cell? ⟨B,0,none⟩=some x∧W.cell? ⟨B,1,none⟩=some y∧W.cell? ⟨B,2,none⟩=some z:=by simp[World.cell?,show W.heap[B]?=_ from h]
theorem cN.frozen {W:World} {B:Nat} {x y z:Value} (h:cN W B x y z) (j:Nat):W.frozen? ⟨B,j,none⟩=false:=by simp[World.frozen?,show W.heap[B]?=_ from h]
theorem cN.qI {W:World} {B:Nat} {x y z:Value} (v:Value) (h:cN W B x y z):cN (W.setCell ⟨B,0,none⟩ v) B v y z:=by obtain ⟨hlt,hk⟩:=Array.getElem?_eq_some_iff.1 h;show (W.heap.modify B _)[B]?=_;rw[Array.getElem?_eq_getElem (by rw[Array.size_modify];exact hlt),Array.getElem_modify_self,hk];rfl
theorem cN.zO {W:World} {B:Nat} {x y z:Value} (v:Value) (h:cN W B x y z):cN (W.setCell ⟨B,1,none⟩ v) B x v z:=by obtain ⟨hlt,hk⟩:=Array.getElem?_eq_some_iff.1 h;show (W.heap.modify B _)[B]?=_;rw[Array.getElem?_eq_getElem (by rw[Array.size_modify];exact hlt),Array.getElem_modify_self,hk];rfl
theorem cN.yQ {W:World} {B:Nat} {x y z:Value} (v:Value) (h:cN W B x y z):cN (W.setCell ⟨B,2,none⟩ v) B x y v:=by obtain ⟨hlt,hk⟩:=Array.getElem?_eq_some_iff.1 h;show (W.heap.modify B _)[B]?=_;rw[Array.getElem?_eq_getElem (by rw[Array.size_modify];exact hlt),Array.getElem_modify_self,hk];rfl
theorem cN.new (W:World) (x y z:Value):cN (W.alloc (.cells #[x,y,z] 73)) W.heap.size x y z:=World.alloc_heap_new _ _
theorem cN.below {W W':World} {B:Nat} {x y z:Value} (h:cN W B x y z) (hb:Bw W W'):cN W' B x y z:=(hb.block B h.lt).trans h
theorem cN.low {W W':World} {B D:Nat} {x y z:Value} (h:cN W B x y z) (hb:Below D W W') (hD:B<D):cN W' B x y z:=(hb.block B hD).trans h
theorem eT {W:World} {B D j:Nat} {e:TypeId} {k n:Nat} {v u:Value} {xs:List Value} (h:W.ownsRow D e k v n xs) (hD:B<D):(W.setCell ⟨B,j,none⟩ u).ownsRow D e k v n xs:=
 h.kept (aw W B j u) (.inr fun e=>by have:=(h.lt _ e).1;omega)
theorem rV {W W':World} {B j:Nat} {u:Value} (h:Below B W W'):Below B W (W'.setCell ⟨B,j,none⟩ u):=eP h j u
theorem qO (W:World) (B n:Nat) (v:Value) (l:List Int) (x:Int) (hown:W.ownsRow B 3 1 v n (bB l)) (hn:n≤1000000) (hB:B≤W.heap.size) :
 ∃g cap w2,(Builtin.append_ #[70,70] 70 #[v,.slice (some ⟨W.heap.size,0,none⟩) 1 1]).run Tryz.prog (W.alloc (.cells #[.int .i64 x] 3))=.ok (.slice (some ⟨g,0,none⟩) (n+1) cap) w2 ∧
  w2.ownsRow B 3 1 (.slice (some ⟨g,0,none⟩) (n+1) cap) (n+1) (bB (l++[x]))∧Below B W w2∧zX W w2 v (.slice (some ⟨g,0,none⟩) (n+1) cap)∧∀a u,W.cell? a=some u→some a.block≠v.ownBlock→w2.cell? a=some u:=by
 obtain ⟨i0,iP,hz0,hz1,hz2⟩:=info_parts acZ;obtain ⟨v',w',h1,h2,h3,_,h5⟩:=run_append_own_at (P:=Tryz.prog) (W.alloc (.cells #[.int .i64 x] 3)) B 70 70 3 i0 (.int .i64 0) 1 8 Tryz.underlying70 iP hz0 hz1 hz2 rfl (by decide) v n _ (hown.alloc _) ⟨W.heap.size,0,none⟩ 1 1 [.int .i64 x] rfl (by
  intro j u hu;rw[jS,World.cell?_alloc_at _ _ _ _ rfl];rcases j with _|j
  ·exact hu
  ·simp at hu) (by intro u hu;simp only[List.mem_cons,List.not_mem_nil,or_false] at hu;subst hu;rfl) (by unfold maxLen;omega) (by omega) (by simp;omega)
 obtain ⟨g,cap,rfl⟩:=ownsRow_succ h2;refine ⟨g,cap,w',h1,?_,l5 aH hB hown h3,rS (fun B' e' k' u m ys h=>h.alloc _) h3 h5,fun a u hu hne=>h3.cell (ae (aq) hu) hne⟩;unfold bB at *;rw[List.map_append];exact h2
theorem RT {W:World} {B n:Nat} {kv y z:Value} {ks:List Int} (x:Int) (Ak:cN W B kv y z) (hk:W.ownsRow (B+1) 3 1 kv n (bB ks)) (hn:n≤1000000) :
 ∃g cap w2,(Builtin.append_ #[70,70] 70 #[kv,.slice (some ⟨W.heap.size,0,none⟩) 1 1]).run Tryz.prog (W.alloc (.cells #[.int .i64 x] 3))=.ok (.slice (some ⟨g,0,none⟩) (n+1) cap) w2∧cN w2 B kv y z ∧
  cN (w2.setCell ⟨B,0,none⟩ (.slice (some ⟨g,0,none⟩) (n+1) cap)) B (.slice (some ⟨g,0,none⟩) (n+1) cap) y z ∧
  (w2.setCell ⟨B,0,none⟩ (.slice (some ⟨g,0,none⟩) (n+1) cap)).ownsRow (B+1) 3 1 (.slice (some ⟨g,0,none⟩) (n+1) cap) (n+1) (bB (ks++[x])) ∧
  Below B W (w2.setCell ⟨B,0,none⟩ (.slice (some ⟨g,0,none⟩) (n+1) cap)) ∧
  (∀(u:Value) (m:Nat) (ys:List Int),W.ownsRow (B+1) 3 1 u m (bB ys)→eD u kv→(w2.setCell ⟨B,0,none⟩ (.slice (some ⟨g,0,none⟩) (n+1) cap)).ownsRow (B+1) 3 1 u m (bB ys)∧eD u (.slice (some ⟨g,0,none⟩) (n+1) cap)∧eD (.slice (some ⟨g,0,none⟩) (n+1) cap) u) ∧
  (∀a u,W.cell? a=some u→some a.block≠kv.ownBlock→w2.cell? a=some u∧(a.block≠B→(w2.setCell ⟨B,0,none⟩ (.slice (some ⟨g,0,none⟩) (n+1) cap)).cell? a=some u)):=by
 obtain ⟨g,cap,w2,h1,h2,h3,h4,h5⟩:=qO W (B+1) n kv ks x hk hn Ak.lt;have qP:=Ak.low h3 (Nat.lt_succ_self _);exact ⟨g,cap,w2,h1,qP,qP.qI _,eT h2 (Nat.lt_succ_self _),rV (gX h3 (Nat.le_succ _)),fun u m ys hu ha=>⟨eT (h4 _ _ _ _ _ _ hu ha).1 (Nat.lt_succ_self _),(h4 _ _ _ _ _ _ hu ha).2⟩,fun a u hu hne=>⟨h5 a u hu hne,fun hB=>(aw _ _ _ _).cell (h5 a u hu hne) (fun e=>hB (by injection e))⟩⟩
theorem RU {W:World} {B n:Nat} {kv y z:Value} {ks:List Int} (x:Int) (Ak:cN W B y kv z) (hk:W.ownsRow (B+1) 3 1 kv n (bB ks)) (hn:n≤1000000) :
 ∃g cap w2,(Builtin.append_ #[70,70] 70 #[kv,.slice (some ⟨W.heap.size,0,none⟩) 1 1]).run Tryz.prog (W.alloc (.cells #[.int .i64 x] 3))=.ok (.slice (some ⟨g,0,none⟩) (n+1) cap) w2∧cN w2 B y kv z ∧
  cN (w2.setCell ⟨B,1,none⟩ (.slice (some ⟨g,0,none⟩) (n+1) cap)) B y (.slice (some ⟨g,0,none⟩) (n+1) cap) z ∧
  (w2.setCell ⟨B,1,none⟩ (.slice (some ⟨g,0,none⟩) (n+1) cap)).ownsRow (B+1) 3 1 (.slice (some ⟨g,0,none⟩) (n+1) cap) (n+1) (bB (ks++[x])) ∧
  Below B W (w2.setCell ⟨B,1,none⟩ (.slice (some ⟨g,0,none⟩) (n+1) cap)) ∧
  (∀(u:Value) (m:Nat) (ys:List Int),W.ownsRow (B+1) 3 1 u m (bB ys)→eD u kv→(w2.setCell ⟨B,1,none⟩ (.slice (some ⟨g,0,none⟩) (n+1) cap)).ownsRow (B+1) 3 1 u m (bB ys)∧eD u (.slice (some ⟨g,0,none⟩) (n+1) cap)∧eD (.slice (some ⟨g,0,none⟩) (n+1) cap) u) ∧
  (∀a u,W.cell? a=some u→some a.block≠kv.ownBlock→w2.cell? a=some u∧(a.block≠B→(w2.setCell ⟨B,1,none⟩ (.slice (some ⟨g,0,none⟩) (n+1) cap)).cell? a=some u)):=by
 obtain ⟨g,cap,w2,h1,h2,h3,h4,h5⟩:=qO W (B+1) n kv ks x hk hn Ak.lt;have qP:=Ak.low h3 (Nat.lt_succ_self _);exact ⟨g,cap,w2,h1,qP,qP.zO _,eT h2 (Nat.lt_succ_self _),rV (gX h3 (Nat.le_succ _)),fun u m ys hu ha=>⟨eT (h4 _ _ _ _ _ _ hu ha).1 (Nat.lt_succ_self _),(h4 _ _ _ _ _ _ hu ha).2⟩,fun a u hu hne=>⟨h5 a u hu hne,fun hB=>(aw _ _ _ _).cell (h5 a u hu hne) (fun e=>hB (by injection e))⟩⟩
def N0 (r:Value×Value×Value):List Value:=[r.1,r.2.1,r.2.2]
def o6 (l:List (ag×(Value×Value×Value))):List Value:=(l.map fun x=>N0 x.2).flatten
theorem G0 (l:List (ag×(Value×Value×Value))) (x:ag×(Value×Value×Value)):o6 (l++[x])=o6 l++N0 x.2:=by unfold o6;rw[List.map_append,List.flatten_append];simp
theorem G1 (l:List (ag×(Value×Value×Value))):∀(i:Nat) x,l[i]?=some x→∀j u,(N0 x.2)[j]?=some u→(o6 l)[i*3+j]?=some u:=by
 induction l with
 |nil=>intro i x h;simp at h
 |cons a l ih=>
  intro i x h j u hj;have e:o6 (a::l)=N0 a.2++o6 l:=by unfold o6;simp
  have e5:(N0 a.2).length=3:=rfl;rw[e];cases i with
  |zero=>simp only[List.getElem?_cons_zero,Option.some.injEq] at h;subst h;have Ez:=(List.getElem?_eq_some_iff.1 hj).1;rw[Nat.zero_mul,Nat.zero_add,List.getElem?_append_left Ez];exact hj
  |succ i=>rw[List.getElem?_cons_succ] at h;rw[List.getElem?_append_right (by omega),e5,show (i+1)*3+j-3=i*3+j by omega];exact ih i x h j u hj
def gH (w:World) (B D:Nat) (v:Value) (l:List ag):Prop:=
 ∃xs:List (ag×(Value×Value×Value)),xs.map Prod.fst=l∧w.ownsRow D 73 3 v l.length (o6 xs)∧∀x∈xs,bw (mask (ox B v w) w) x.1 x.2.1 x.2.2.1 x.2.2.2
def MB (B D:Nat) (W:World):Nat→Prop:=fun b=>vZ B W b∧b<D
theorem gH.shape {w:World} {B D:Nat} {v:Value} {l:List ag} (h:gH w B D v l):∃p c,v=.slice p l.length c∧l.length≤c∧c≤maxLen∧∀k,v.ownBlock=some k→D≤k∧k<w.heap.size:=by
 obtain ⟨xs,rfl,hown,hx⟩:=h;rcases aK hown with ⟨hv,hn,_⟩|⟨g,cap,hv⟩
 ·exact ⟨none,0,by rw[hv,hn],by omega,by unfold maxLen;omega,fun k hk=>hown.lt k hk⟩
 ·subst hv
  obtain ⟨cur,hA,hB,h3,h4,h5,_⟩:=bp hown;exact ⟨_,_,rfl,h3,h4,fun k hk=>hown.lt k hk⟩
theorem gH.RV {w:World} {B D n:Nat} {v:Value} {l:List ag} (h:gH w B D v l) (hn:l.length=n):∃p c,v=.slice p n c:=by obtain ⟨p,c,h1,_⟩:=h.shape;exact ⟨p,c,by rw[h1,hn]⟩
theorem gH.kid {w:World} {B D:Nat} {p:Option Addr} {n c:Nat} {l:List ag} (h:gH w B D (.slice p n c) l) (hBD:B≤D):∀j t,l[j]?=some t→∃g,p=some ⟨g,0,none⟩∧qx (mask (vZ B w) w) (some ⟨g,0,none⟩) j t:=by
 obtain ⟨xs,rfl,hown,hx⟩:=h;intro j t hj;rw[List.getElem?_map] at hj;cases vJ:xs[j]? with
 |none=>rw[vJ] at hj;simp at hj
 |some x=>
  rw[vJ] at hj;simp only[Option.map_some,Option.some.injEq] at hj;subst hj;have hlt:=(List.getElem?_eq_some_iff.1 vJ).1;rcases aK hown with ⟨_,hn,_⟩|⟨g,cap,hv⟩
  ·rw[List.length_map] at hn;omega
  ·have hv':=hv
   injection hv' with e1 e2 e3;subst e1;subst e2;subst e3;obtain ⟨cur,hA,hB,h3,h4,h5,_⟩:=bp hown;have hF:vZ B w g:=⟨by have:=(hown.lt g rfl).1;omega,cur,_,by first|exact hA|exact hB⟩
   have hc:∀i u,(N0 x.2)[i]?=some u→(mask (vZ B w) w).cell? ⟨g,0+j*3+i,none⟩=some u:=fun i u hi=>ar.2 ⟨hF,by
    have h6:=G1 xs j x vJ i u hi;obtain ⟨h7,h8⟩:=List.getElem?_eq_some_iff.1 h6;rw[Nat.zero_add,bJ hown (j*3+i) h7,h8]⟩
   exact ⟨g,rfl,g,0,x.2.1,x.2.2.1,x.2.2.2,rfl,hc 0 _ rfl,hc 1 _ rfl,hc 2 _ rfl,(hx x (List.mem_of_getElem? vJ)).keep (bI fun _ _ hf hv=>⟨hf.1,hv⟩)⟩
theorem gH.below {w w':World} {B D:Nat} {v:Value} {l:List ag} (h:gH w B D v l) (hb:Bw w w'):gH w' B D v l:=by obtain ⟨xs,h1,hown,hx⟩:=h;exact ⟨xs,h1,kr hown hb,fun x zU=>(hx x zU).keep (bI fun a u hf hu=>⟨⟨⟨hf.1.1,oY hf.1.2 hb⟩,hf.2⟩,ae hb hu⟩)⟩
theorem gH.mono {w:World} {B D D':Nat} {v:Value} {l:List ag} (h:D≤D') (ho:gH w B D' v l):gH w B D v l:=by obtain ⟨xs,h1,hown,hx⟩:=ho;exact ⟨xs,h1,bC h hown,hx⟩
theorem gH.block {w:World} {B D:Nat} {v:Value} {l:List ag} (h:gH w B D v l):∀k,v.ownBlock=some k→D≤k∧k<w.heap.size:=by obtain ⟨xs,h1,hown,hx⟩:=h;exact fun k hk=>hown.lt k hk
theorem C4 (W:World) (B D n:Nat) (v:Value) (l:List ag) (t:ag) (a b c:Value) (hown:gH W B D v l) (hl:l.length=n) (hn:n≤1000000) (hD:D≤W.heap.size) (h3:bw (mask (ox B v W) W) t a b c) :
 ∃g cap w2,(Builtin.append_ #[71,71] 71 #[v,.slice (some ⟨W.heap.size,0,none⟩) 1 1]).run Tryz.prog (W.alloc (.cells #[a,b,c] 73))=.ok (.slice (some ⟨g,0,none⟩) (n+1) cap) w2 ∧
  gH w2 B D (.slice (some ⟨g,0,none⟩) (n+1) cap) (l++[t])∧Below D W w2:=by
 obtain ⟨xs,hx0,hown,hx⟩:=hown;obtain ⟨pa,na,ca,pb,nb,cb,pc,nc,cc,rfl,rfl,rfl⟩:=bc h3;rw[hl] at hown;obtain ⟨i0,iP,hz0,hz1,hz2⟩:=info_parts QU;obtain ⟨v',w',r1,r2,r3,_,r5⟩:=run_append_own_at (P:=Tryz.prog) (W.alloc (.cells #[.slice pa na ca,.slice pb nb cb,.slice pc nc cc] 73)) D 71 71 73 i0 _ 3 72 Tryz.underlying71 iP hz0 hz1 hz2 rfl (by decide) v n _ (hown.alloc _) ⟨W.heap.size,0,none⟩ 1 1 [.slice pa na ca,.slice pb nb cb,.slice pc nc cc] rfl (by
  intro j u hu;rw[jS,World.cell?_alloc_at _ _ _ _ rfl];rcases j with _|_|_|j
  ·exact hu
  ·exact hu
  ·exact hu
  ·simp at hu) (by
  intro u hu;simp only[List.mem_cons,List.not_mem_nil,or_false] at hu;rcases hu with rfl|rfl|rfl <;> rfl) (by unfold maxLen;omega) (by omega) (by simp;omega)
 obtain ⟨g,cap,rfl⟩:=ownsRow_succ r2;have hk:dJ (mask (ox B v W) W) (mask (ox B (.slice (some ⟨g,0,none⟩) (n+1) cap) w') w'):=bI fun a u hf hu=>by
  have hlt:=World.block_lt_of_cell? _ _ hu;have ha:Bw W (W.alloc (.cells #[.slice pa na ca,.slice pb nb cb,.slice pc nc cc] 73)):=aq;refine ⟨⟨⟨hf.1.1,?_⟩,fun e=>?_⟩,r3.cell (ae ha hu) hf.2⟩
  ·obtain ⟨c',t',hc'⟩:=oY hf.1.2 ha
   exact ⟨c',t',(r3.block a.block (Array.getElem?_eq_some_iff.1 hc').1 hf.2).trans hc'⟩
  rcases r5 with r5|r5
  ·rw[r5] at e;exact hf.2 e
  ·rw[r5] at e;injection e with e;simp at e;omega
 refine ⟨g,cap,w',r1,⟨xs++[(t,(.slice pa na ca,.slice pb nb cb,.slice pc nc cc))],by rw[List.map_append,hx0];rfl,?_,fun x zU=>?_⟩,l5 aH hD hown r3⟩
 ·rw[List.length_append,hl,G0];exact r2
 ·rw[List.mem_append,List.mem_singleton] at zU
  rcases zU with zU|rfl
  ·exact (hx x zU).keep hk
  ·exact h3.keep hk
theorem MC {W0 W:World} {B:Nat} (hb:Bw W0 W):dJ (mask (vZ B W0) W0) (mask (MB B W0.heap.size W) W):=
 bI fun _ _ hf hu=>⟨⟨⟨hf.1,oY hf.2 hb⟩,World.block_lt_of_cell? _ _ hu⟩,ae hb hu⟩
theorem adQ {W:World} {B D:Nat} {v:Value} (hv:∀k,v.ownBlock=some k→D≤k):dJ (mask (MB B D W) W) (mask (ox B v W) W):=
 bI fun _ _ hf hu=>⟨⟨hf.1,fun e=>by have:=hv _ e.symm;have:=hf.2;omega⟩,hu⟩
theorem G2 {w w':World} {p:Option Addr} {j:Nat} {t:ag} (h:qx w p j t) (hk:dJ w w'):qx w' p j t:=by obtain ⟨g,o,x,y,z,e1,e2,e3,e4,e5⟩:=h;exact ⟨g,o,x,y,z,e1,hk _ _ e2,hk _ _ e3,hk _ _ e4,e5.keep hk⟩
theorem MD {w:World} {t:ag} {x y z:Value} (h:bw w t x y z) (hk:1≤t.keys.length):∃g o n c,x=.slice (some ⟨g,o,none⟩) n c∧1≤n∧aP (sP t)∧w.cell? ⟨g,o,none⟩=some (.int .i64 (sP t)):=by
 obtain ⟨⟨p,c,rfl,_,_,h1⟩,_⟩:=bD.1 h;have e:t.keys[0]?=some (sP t):=by
  unfold sP;cases hx:t.keys with
  |nil=>rw[hx] at hk;simp at hk
  |cons a l=>rfl
 obtain ⟨b,g,o,rfl,h3⟩:=h1 0 _ e;exact ⟨g,o,_,c,rfl,hk,b,by rw[Nat.add_zero] at h3;exact h3⟩
theorem VP {W:World} {B B0:Nat} {kv vv:Value} {p:List az} (hp:Gk p) (hk:W.ownsRow B 3 1 kv p.length (bB (p.map Prod.fst))) (hv:W.ownsRow B 3 1 vv p.length (bB (p.map Prod.snd))) (h0:B0≤B) {v:Value} (hr:∀k,v.ownBlock=some k→k<B) :
 bw (mask (ox B0 v W) W) (iQ p) kv vv (.slice none 0 0):=by
 have gU:dJ (mask (Zc B W) W) (mask (ox B0 v W) W):=bI fun a u hf hu=>⟨⟨⟨by have:=hf.1;omega,by obtain ⟨c,hc⟩:=hf.2;exact ⟨c,_,hc⟩⟩,fun e=>by have:=hr _ e.symm;have:=hf.1;omega⟩,hu⟩
 rw[bD];refine ⟨(qJ (fun x hx=>?_) (by unfold iQ ag.keys;simp only;rw[List.length_map];exact hk)).keep gU,(qJ (fun x hx=>?_) (by unfold iQ ag.vals;simp only;rw[List.length_map];exact hv)).keep gU,none,0,rfl,aT,by unfold maxLen;omega,fun j t hj=>by simp[iQ,ag.kids] at hj⟩
 ·unfold iQ ag.keys at hx;simp only at hx;rw[List.mem_map] at hx;obtain ⟨y,hy,rfl⟩:=hx;exact (hp y hy).1
 ·unfold iQ ag.vals at hx;simp only at hx;rw[List.mem_map] at hx;obtain ⟨y,hy,rfl⟩:=hx;exact (hp y hy).2
theorem VQ {W:World} {B B0 D Dc:Nat} {kv:Value} {gr cr:Nat} {q:List ag} {xs:List Value} (_hq:1≤q.length) (hk:W.ownsRow B 3 1 kv q.length (bB (q.map sP))) (iO:∀t∈q,aP (sP t)) (h0:B0≤B) (_hDB:D≤B) {v:Value} (hr:∀k,v.ownBlock=some k→D≤k∧k<Dc)
 (hDc:D≤Dc) (hBc:Dc≤B) (h0D:B0≤D) (hc:W.ownsRow Dc 73 3 (.slice (some ⟨gr,0,none⟩) q.length cr) q.length xs)
 (hx:∀j t,q[j]?=some t→∃x y z,xs[j*3]?=some x∧xs[j*3+1]?=some y∧xs[j*3+2]?=some z∧bw (mask (MB B0 D W) W) t x y z) :
 bw (mask (ox B0 v W) W) (jG q) kv (.slice none 0 0) (.slice (some ⟨gr,0,none⟩) q.length cr):=by
 have gU:dJ (mask (Zc B W) W) (mask (ox B0 v W) W):=bI fun a u hf hu=>⟨⟨⟨by have:=hf.1;omega,by obtain ⟨c,hc⟩:=hf.2;exact ⟨c,_,hc⟩⟩,fun e=>by have:=(hr _ e.symm).2;have:=hf.1;omega⟩,hu⟩
 obtain ⟨cur,h3,h2,h4,h5,h6,h7⟩:=bp hc;have hg:=(hc.lt gr rfl).1;rw[bD];refine ⟨(qJ (fun x hx=>?_) (by unfold jG ag.keys;simp only;rw[List.length_map];exact hk)).keep gU,⟨none,0,rfl,aT,by unfold maxLen;omega,fun i x hx=>by simp[jG,ag.vals] at hx⟩,some ⟨gr,0,none⟩,cr,rfl,h4,h5,fun j t hj=>?_⟩
 ·unfold jG ag.keys at hx;simp only at hx;rw[List.mem_map] at hx;obtain ⟨y,hy,rfl⟩:=hx;exact iO y hy
 ·obtain ⟨x,y,z,e1,e2,e3,e4⟩:=hx j t hj
  have hF:ox B0 v W gr:=⟨⟨by omega,cur,_,h3⟩,fun e=>by have:=(hr _ e.symm).2;omega⟩
  have key:∀i u,xs[i]?=some u→(mask (ox B0 v W) W).cell? ⟨gr,i,none⟩=some u:=fun i u hu=>ar.2 ⟨hF,by
   obtain ⟨hi,hv⟩:=List.getElem?_eq_some_iff.1 hu;rw[bJ hc i hi,hv]⟩
  exact ⟨gr,0,x,y,z,rfl,by rw[Nat.zero_add];exact key _ _ e1,by rw[Nat.zero_add];exact key _ _ e2,by rw[Nat.zero_add];exact key _ _ e3,e4.keep (adQ fun k hk=>(hr k hk).1)⟩
theorem cR {W:World} {B B':Nat} {e e':TypeId} {k k' n n':Nat} {u v:Value} {xs ys:List Value} (h:W.ownsRow B e k u n xs) (h':W.ownsRow B' e' k' v n' ys) (hne:e≠e'):eD u v:=by
 rcases h.2 with ⟨hu,_⟩|⟨g,cap,cur,hu,_,hg,_⟩
 ·left;rw[hu];rfl
 ·rcases h'.2 with ⟨hv,_⟩|⟨g',cap',cur',hv,_,hg',_⟩
  ·right;rw[hu,hv];simp[Value.ownBlock]
  ·right;rw[hu,hv]
   intro e;simp only[Value.ownBlock,Option.some.injEq] at e;subst e;rw[hg] at hg';injection hg' with hg';injection hg' with _ h2 _;exact hne h2
theorem EJ (W:World) (B n:Nat) (v:Value) (xs:List Value) {pa pb pc:Option Addr} {na ca nb cb nc cc:Nat} (hown:W.ownsRow B 73 3 v n xs) (hn:n≤1000000) (hB:B≤W.heap.size) :
 ∃g cap w2,(Builtin.append_ #[71,71] 71 #[v,.slice (some ⟨W.heap.size,0,none⟩) 1 1]).run Tryz.prog (W.alloc (.cells #[.slice pa na ca,.slice pb nb cb,.slice pc nc cc] 73))=.ok (.slice (some ⟨g,0,none⟩) (n+1) cap) w2 ∧
  w2.ownsRow B 73 3 (.slice (some ⟨g,0,none⟩) (n+1) cap) (n+1) (xs++[.slice pa na ca,.slice pb nb cb,.slice pc nc cc])∧Below B W w2∧zX W w2 v (.slice (some ⟨g,0,none⟩) (n+1) cap):=by
 obtain ⟨i0,iP,hz0,hz1,hz2⟩:=info_parts QU;obtain ⟨v',w',r1,r2,r3,_,r5⟩:=run_append_own_at (P:=Tryz.prog) (W.alloc (.cells #[.slice pa na ca,.slice pb nb cb,.slice pc nc cc] 73)) B 71 71 73 i0 _ 3 72 Tryz.underlying71 iP hz0 hz1 hz2 rfl (by decide) v n _ (hown.alloc _) ⟨W.heap.size,0,none⟩ 1 1 [.slice pa na ca,.slice pb nb cb,.slice pc nc cc] rfl (by
  intro j u hu;rw[jS,World.cell?_alloc_at _ _ _ _ rfl];rcases j with _|_|_|j
  ·exact hu
  ·exact hu
  ·exact hu
  ·simp at hu) (by
  intro u hu;simp only[List.mem_cons,List.not_mem_nil,or_false] at hu;rcases hu with rfl|rfl|rfl <;> rfl) (by unfold maxLen;omega) (by omega) (by simp;omega)
 obtain ⟨g,cap,rfl⟩:=ownsRow_succ r2;exact ⟨g,cap,w',r1,r2,l5 aH hB hown r3,rS (fun B' e' k' u m ys h=>h.alloc _) r3 r5⟩
theorem N3 {W:World} {B n:Nat} {kv y cv:Value} {ks:List Int} {ys:List Value} {m:Nat} (x:Int) (Ak:cN W B kv y cv) (hk:W.ownsRow (B+1) 3 1 kv n (bB ks)) (hc:W.ownsRow (B+1) 73 3 cv m ys) (hn:n≤1000000) :
 ∃g cap w2,(Builtin.append_ #[70,70] 70 #[kv,.slice (some ⟨W.heap.size,0,none⟩) 1 1]).run Tryz.prog (W.alloc (.cells #[.int .i64 x] 3))=.ok (.slice (some ⟨g,0,none⟩) (n+1) cap) w2∧cN w2 B kv y cv ∧
  cN (w2.setCell ⟨B,0,none⟩ (.slice (some ⟨g,0,none⟩) (n+1) cap)) B (.slice (some ⟨g,0,none⟩) (n+1) cap) y cv ∧
  (w2.setCell ⟨B,0,none⟩ (.slice (some ⟨g,0,none⟩) (n+1) cap)).ownsRow (B+1) 3 1 (.slice (some ⟨g,0,none⟩) (n+1) cap) (n+1) (bB (ks++[x])) ∧
  (w2.setCell ⟨B,0,none⟩ (.slice (some ⟨g,0,none⟩) (n+1) cap)).ownsRow (B+1) 73 3 cv m ys ∧
  Below B W (w2.setCell ⟨B,0,none⟩ (.slice (some ⟨g,0,none⟩) (n+1) cap)) ∧
  (∀a u,W.cell? a=some u→some a.block≠kv.ownBlock→a.block≠B→(w2.setCell ⟨B,0,none⟩ (.slice (some ⟨g,0,none⟩) (n+1) cap)).cell? a=some u):=by
 obtain ⟨g,cap,w2,h1,h2,h3,h4,h5⟩:=qO W (B+1) n kv ks x hk hn Ak.lt;have qP:=Ak.low h3 (Nat.lt_succ_self _);exact ⟨g,cap,w2,h1,qP,qP.qI _,eT h2 (Nat.lt_succ_self _),eT (h4 _ _ _ _ _ _ hc (cR hc hk (by decide))).1 (Nat.lt_succ_self _),rV (gX h3 (Nat.le_succ _)),fun a u hu hne hB=>(aw _ _ _ _).cell (h5 a u hu hne) (fun e=>hB (by injection e))⟩
theorem RX {W:World} {B n m:Nat} {kv y cv:Value} {ks:List Int} {ys:List Value} {pa pb pc:Option Addr} {na ca nb cb nc cc:Nat} (Ak:cN W B kv y cv) (hk:W.ownsRow (B+1) 3 1 kv m (bB ks)) (hc:W.ownsRow (B+1) 73 3 cv n ys) (hn:n≤1000000) :
 ∃g cap w2,(Builtin.append_ #[71,71] 71 #[cv,.slice (some ⟨W.heap.size,0,none⟩) 1 1]).run Tryz.prog (W.alloc (.cells #[.slice pa na ca,.slice pb nb cb,.slice pc nc cc] 73))=.ok (.slice (some ⟨g,0,none⟩) (n+1) cap) w2∧cN w2 B kv y cv ∧
  cN (w2.setCell ⟨B,2,none⟩ (.slice (some ⟨g,0,none⟩) (n+1) cap)) B kv y (.slice (some ⟨g,0,none⟩) (n+1) cap) ∧
  (w2.setCell ⟨B,2,none⟩ (.slice (some ⟨g,0,none⟩) (n+1) cap)).ownsRow (B+1) 73 3 (.slice (some ⟨g,0,none⟩) (n+1) cap) (n+1) (ys++[.slice pa na ca,.slice pb nb cb,.slice pc nc cc]) ∧
  (w2.setCell ⟨B,2,none⟩ (.slice (some ⟨g,0,none⟩) (n+1) cap)).ownsRow (B+1) 3 1 kv m (bB ks) ∧
  Below B W (w2.setCell ⟨B,2,none⟩ (.slice (some ⟨g,0,none⟩) (n+1) cap)):=by
 obtain ⟨g,cap,w2,h1,h2,h3,h4⟩:=EJ W (B+1) n cv ys (pa:=pa) (pb:=pb) (pc:=pc) (na:=na) (ca:=ca) (nb:=nb) (cb:=cb) (nc:=nc) (cc:=cc) hc hn Ak.lt;have qP:=Ak.low h3 (Nat.lt_succ_self _);exact ⟨g,cap,w2,h1,qP,qP.yQ _,eT h2 (Nat.lt_succ_self _),eT (h4 _ _ _ _ _ _ hk (cR hk hc (by decide))).1 (Nat.lt_succ_self _),rV (gX h3 (Nat.le_succ _))⟩
theorem adR {xs:List Value} {j:Nat} {x y z:Value} (h1:xs[j*3]?=some x) (h2:xs[j*3+1]?=some y) (h3:xs[j*3+2]?=some z):xs.take ((j+1)*3)=xs.take (j*3)++[x,y,z]:=by rw[show (j+1)*3=j*3+3 by omega,List.take_add];congr 1;obtain ⟨l1,rfl⟩:=List.getElem?_eq_some_iff.1 h1;obtain ⟨l2,rfl⟩:=List.getElem?_eq_some_iff.1 h2;obtain ⟨l3,rfl⟩:=List.getElem?_eq_some_iff.1 h3;rw[List.drop_eq_getElem_cons l1,List.drop_eq_getElem_cons l2,List.drop_eq_getElem_cons l3];rfl
def cO (u:aj):List Value:=[.int .i64 u.1,.int .i64 u.2.1,.int .i64 u.2.2.1,.bool u.2.2.2]
def aI (l:List aj):List Value:=(l.map cO).flatten
theorem EK (l:List aj) (u:aj):aI (l++[u])=aI l++cO u:=by unfold aI;simp
theorem nA (l:List aj):(aI l).length=l.length*4:=by
 induction l with
 |nil=>rfl
 |cons a l ih=>unfold aI at *;rw[List.map_cons,List.flatten_cons,List.length_append,ih,List.length_cons];unfold cO;simp only[List.length_cons,List.length_nil];omega
theorem iB:∀(l:List aj) (i:Nat) (u:aj) (j:Nat) (x:Value),l[i]?=some u→(cO u)[j]?=some x→(aI l)[i*4+j]?=some x
 |[],i,u,j,x,h,_=>by simp at h
 |a::l,0,u,j,x,h,hx=>by simp only[List.getElem?_cons_zero,Option.some.injEq] at h;subst h;have hj:=(List.getElem?_eq_some_iff.1 hx).1;unfold aI;rw[List.map_cons,List.flatten_cons,List.getElem?_append_left (by omega),Nat.zero_mul,Nat.zero_add];exact hx
 |a::l,i+1,u,j,x,h,hx=>by rw[List.getElem?_cons_succ] at h;have h1:=iB l i u j x h hx;unfold aI at *;rw[List.map_cons,List.flatten_cons,List.getElem?_append_right (by unfold cO;simp only[List.length_cons,List.length_nil];omega)];rw[show (i+1)*4+j-(cO a).length=i*4+j by unfold cO;simp only[List.length_cons,List.length_nil];omega];exact h1
theorem fw {w:World} {B:Nat} {v:Value} {l:List aj} (h:w.ownsRow B 52 4 v l.length (aI l)):dB w v l:=by
 rcases aK h with ⟨hv,hn,_⟩|⟨g,cap,hv⟩
 ·exact ⟨none,0,by rw[hv,hn],by omega,by unfold maxLen;omega,fun i x hx=>by rw[List.eq_nil_of_length_eq_zero hn] at hx;simp at hx⟩
 ·subst hv
  obtain ⟨_,_,_,h3,h4,_⟩:=bp h;refine ⟨_,cap,rfl,h3,h4,fun i x hx=>⟨g,0,rfl,?_⟩⟩;have key:∀(j:Nat) u,(cO x)[j]?=some u→w.cell? ⟨g,i*4+j,none⟩=some u:=fun j u hu=>by have h5:=iB l i x j u hx hu;obtain ⟨h6,h7⟩:=List.getElem?_eq_some_iff.1 h5;rw[bJ h _ h6,h7]
  rw[Nat.zero_add];exact ⟨key 0 _ rfl,key 1 _ rfl,key 2 _ rfl,key 3 _ rfl⟩
theorem VR:(Tryz.prog.info? 52).map (fun i=>(i.zero,i.size,i.bytes))=some (some (.agg #[.int .i64 0,.int .i64 0,.int .i64 0,.bool false]),4,32):=by kernel_rfl
theorem zl:(Tryz.prog.info? 45).map (fun i=>(i.zero,i.size,i.bytes))=some (some (.slice none 0 0),1,24):=by kernel_rfl
theorem ju (W:World) (B n:Nat) (v:Value) (l:List aj) (u:aj) (hown:W.ownsRow B 52 4 v n (aI l)) (hn:n≤1000000) (hB:B≤W.heap.size) :
 ∃g cap w2,(Builtin.append_ #[45,45] 45 #[v,.slice (some ⟨W.heap.size,0,none⟩) 1 1]).run Tryz.prog (W.alloc (.cells #[.int .i64 u.1,.int .i64 u.2.1,.int .i64 u.2.2.1,.bool u.2.2.2] 52))=.ok (.slice (some ⟨g,0,none⟩) (n+1) cap) w2 ∧
  w2.ownsRow B 52 4 (.slice (some ⟨g,0,none⟩) (n+1) cap) (n+1) (aI (l++[u]))∧Below B W w2∧zX W w2 v (.slice (some ⟨g,0,none⟩) (n+1) cap)∧∀a x,W.cell? a=some x→some a.block≠v.ownBlock→w2.cell? a=some x:=by
 obtain ⟨i0,iP,hz0,hz1,hz2⟩:=info_parts VR;obtain ⟨v',w',h1,h2,h3,_,h5⟩:=run_append_own_at (P:=Tryz.prog) (W.alloc (.cells #[.int .i64 u.1,.int .i64 u.2.1,.int .i64 u.2.2.1,.bool u.2.2.2] 52)) B 45 45 52 i0 _ 4 32 Tryz.underlying45 iP hz0 hz1 hz2 rfl (by decide) v n _ (hown.alloc _) ⟨W.heap.size,0,none⟩ 1 1 (cO u) rfl (by
  intro j x hx;rw[jS,World.cell?_alloc_at _ _ _ _ rfl];unfold cO at hx;rcases j with _|_|_|_|j
  ·exact hx
  ·exact hx
  ·exact hx
  ·exact hx
  ·simp at hx) (by intro x hx;unfold cO at hx;simp only[List.mem_cons,List.not_mem_nil,or_false] at hx;rcases hx with rfl|rfl|rfl|rfl <;> rfl) (by unfold maxLen;omega) (by omega) (by simp;omega)
 obtain ⟨g,cap,rfl⟩:=ownsRow_succ h2;refine ⟨g,cap,w',h1,?_,l5 aH hB hown h3,rS (fun B' e' k' u m ys h=>h.alloc _) h3 h5,fun a x hx hne=>h3.cell (ae (aq) hx) hne⟩;rw[EK];exact h2
def fM (W:World) (B D g n:Nat) (T:List (List aj)):Prop:=
 ∃rs:List Value,T.length=n∧rs.length=n∧W.ownsRow B 45 1 (.slice (some ⟨g,0,none⟩) n n) n rs∧(∀(j:Nat) r t,rs[j]?=some r→T[j]?=some t→W.ownsRow D 52 4 r t.length (aI t))∧∀(i j:Nat) r r',i≠j→rs[i]?=some r→rs[j]?=some r'→eD r r'
theorem fM.below {W W':World} {B D g n:Nat} {T:List (List aj)} (h:fM W B D g n T) (hb:Below W.heap.size W W'):fM W' B D g n T:=by obtain ⟨rs,h1,h2,h3,h4,h5⟩:=h;exact ⟨rs,h1,h2,kr h3 hb,fun j r t hr ht=>kr (h4 j r t hr ht) hb,h5⟩
theorem fM.len {W:World} {B D g n:Nat} {T:List (List aj)} (h:fM W B D g n T):T.length=n:=h.choose_spec.1
theorem fM.one {W:World} {B D g n:Nat} {T:List (List aj)} {c:Nat} {t:List aj} (h:fM W B D g n T) (ht:T[c]?=some t):∃r,W.cell? ⟨g,c,none⟩=some r∧W.ownsRow D 52 4 r t.length (aI t):=by
 obtain ⟨rs,h1,h2,h3,h4,h5⟩:=h;have hc:c<rs.length:=by have:=(List.getElem?_eq_some_iff.1 ht).1;omega
 exact ⟨rs[c],bJ h3 c hc,h4 c _ t (List.getElem?_eq_getElem hc) ht⟩
theorem fM.at {W:World} {B D g n:Nat} {T:List (List aj)} (h:fM W B D g n T) (hn:n≤1000):dI W (.slice (some ⟨g,0,none⟩) n n) T:=by have h9:=h;obtain ⟨rs,h1,h2,h3,h4,h5⟩:=h;refine ⟨_,n,by rw[h1],by omega,by unfold maxLen;omega,fun i t ht=>?_⟩;obtain ⟨r,hr,ho⟩:=h9.one ht;exact ⟨g,0,r,rfl,by rw[Nat.zero_add];exact hr,fw ho⟩
theorem Al (W:World) (n:Nat) (hn:n≤1000):∃w1,(Instr.makeSlice 28 (.int .i64 n) (.int .i64 n)).run Tryz.prog W=.ok (.slice (some ⟨W.heap.size,0,none⟩) n n) w1∧(∀D,fM w1 W.heap.size D W.heap.size n (List.replicate n []))∧Below W.heap.size W w1:=by
 obtain ⟨i0,hi,hz0,hz1,hz2⟩:=info_parts zl;obtain ⟨w1,jP,hown,hg⟩:=run_make_full (P:=Tryz.prog) W W.heap.size 28 45 i0 (.slice none 0 0) 1 Tryz.underlying28 hi hz0 hz1 .i64 .i64 n (by rw[hz2];omega) (by unfold maxLen;omega) aT;have e:(Value.slice none 0 0).cells = #[Value.slice none 0 0]:=rfl;rw[e,toList_madeCells_one,Nat.mul_one] at hown;refine ⟨w1,jP,fun D=>⟨_,by simp,by simp,hown,fun j r t hr ht=>?_,fun i j r r' _ hr _=>?_⟩,aH.grown hg aT (fun k e=>by cases e)⟩
 ·rw[List.getElem?_replicate] at hr ht
  split at hr
  ·simp only[Option.some.injEq] at hr;subst hr
   rw[if_pos (by assumption)] at ht;simp only[Option.some.injEq] at ht;subst ht;exact World.ownsRow_nil _ _ _ _
  ·simp at hr
 ·rw[List.getElem?_replicate] at hr
  split at hr
  ·simp only[Option.some.injEq] at hr;subst hr;exact .inl rfl
  ·simp at hr
theorem ME {W:World} {B B' g j n k n' e:Nat} {u v:Value} {xs rs:List Value} (h:W.ownsRow B e k v n xs) (hr:W.ownsRow B' 45 1 (.slice (some ⟨g,0,none⟩) n' n') n' rs) (hne:e≠45):(W.setCell ⟨g,j,none⟩ u).ownsRow B e k v n xs:=
 h.kept (aw W g j u) (by
  rcases cR h hr hne with h1|h1
  ·exact .inl h1
  ·exact .inr h1)
theorem wA (Wr W:World) (B D g n c:Nat) (T:List (List aj)) (t:List aj) (u:aj) (hw:Below Wr.heap.size Wr W) (h:fM Wr B D g n T) (ht:T[c]?=some t) (hl:t.length≤1000000) (hD:D≤Wr.heap.size) :
 ∃r,W.cell? ⟨g,c,none⟩=some r∧∃g' cap w2,(Builtin.append_ #[45,45] 45 #[r,.slice (some ⟨W.heap.size,0,none⟩) 1 1]).run Tryz.prog (W.alloc (.cells #[.int .i64 u.1,.int .i64 u.2.1,.int .i64 u.2.2.1,.bool u.2.2.2] 52))=.ok (.slice (some ⟨g',0,none⟩) (t.length+1) cap) w2∧w2.cell? ⟨g,c,none⟩=some r∧w2.frozen? ⟨g,c,none⟩=false∧fM (w2.setCell ⟨g,c,none⟩ (.slice (some ⟨g',0,none⟩) (t.length+1) cap)) B D g n (T.set c (t++[u]))∧Below D W w2∧∀a x,Wr.heap.size≤a.block→W.cell? a=some x→w2.cell? a=some x:=by
 have hW:=h.below hw;obtain ⟨r0,hc0,ho0⟩:=h.one ht;obtain ⟨rs,h1,h2,h3,h4,h5⟩:=hW;have hc:c<rs.length:=by have:=(List.getElem?_eq_some_iff.1 ht).1;omega
 have G3:rs[c]?=some rs[c]:=List.getElem?_eq_getElem hc;have hr0:=h4 c _ t G3 ht;have her:rs[c]=r0:=by have e1:=bJ h3 c hc;rw[hw.cell (World.block_lt_of_cell? _ _ hc0),hc0] at e1;injection e1 with e1;exact e1.symm
 obtain ⟨g',cap,w2,ha,hb,hbl,ho,gU⟩:=ju W D t.length _ t u hr0 hl (Nat.le_trans hD hw.size);have MF:=(ho _ _ _ _ _ _ h3 (cR h3 hr0 (by decide))).1;refine ⟨rs[c],bJ h3 c hc,_,_,w2,ha,bJ MF c hc,gC MF c,⟨rs.set c _,by rw[List.length_set];exact h1,by rw[List.length_set];exact h2,l9 MF c _ hc,?_,?_⟩,hbl,fun a x zM hx=>gU a x hx ?_⟩
 ·intro j r t' hr Kv
  by_cases hj:c=j
  ·subst hj
   rw[List.getElem?_set_self hc] at hr;rw[List.getElem?_set_self (by rw[h1,← h2];exact hc)] at Kv;cases hr;cases Kv;have:=ME (j:=c) (u:=.slice (some ⟨g',0,none⟩) (t.length+1) cap) hb MF (by decide);rw[List.length_append];exact this
  ·rw[List.getElem?_set_ne hj] at hr Kv
   exact ME (ho _ _ _ _ _ _ (h4 j r t' hr Kv) (h5 j c r _ (fun e=>hj e.symm) hr G3)).1 MF (by decide)
 ·intro i j r r' xS hr Ya
  by_cases hi:c=i
  ·subst hi
   rw[List.getElem?_set_self hc] at hr;rw[List.getElem?_set_ne xS] at Ya;cases hr;obtain ⟨t',Kv⟩:∃t',T[j]?=some t':=⟨_,List.getElem?_eq_getElem (by have:=(List.getElem?_eq_some_iff.1 Ya).1;omega)⟩
   exact (ho _ _ _ _ _ _ (h4 j r' t' Ya Kv) (h5 j c r' _ (fun e=>xS e.symm) Ya G3)).2.2
  ·rw[List.getElem?_set_ne hi] at hr
   by_cases hj:c=j
   ·subst hj
    rw[List.getElem?_set_self hc] at Ya;cases Ya;obtain ⟨t',Kv⟩:∃t',T[i]?=some t':=⟨_,List.getElem?_eq_getElem (by have:=(List.getElem?_eq_some_iff.1 hr).1;omega)⟩
    exact (ho _ _ _ _ _ _ (h4 i r t' hr Kv) (h5 i c r _ xS hr G3)).2.1
   ·rw[List.getElem?_set_ne hj] at Ya
    exact h5 i j r r' xS hr Ya
 ·rw[her]
  intro e;have:=(ho0.lt _ e.symm).2;omega
def UC (g:Nat) (W W':World):Prop:=∀b,g<b→b<W.heap.size→W'.heap[b]?=W.heap[b]?
theorem UC.cell {g:Nat} {W W':World} (h:UC g W W') {a:Addr} {v:Value} (hv:W.cell? a=some v) (hg:g<a.block):W'.cell? a=some v:=
 (World.cell?_of_block (h a.block hg (World.block_lt_of_cell? _ _ hv))).trans hv
theorem UC.refl (g:Nat) (W:World):UC g W W:=fun _ _ _=>rfl
theorem UC.step {g D:Nat} {W W1 W2 w2:World} {r:Value} {c:Nat} (h:UC g W W1) (hs:W.heap.size≤W1.heap.size) (hb:Below W1.heap.size W1 W2) (hD:W.heap.size≤D) (h2:Below D W2 w2):UC g W (w2.setCell ⟨g,c,none⟩ r):=fun b hg hlt=>by rw[Below.heap_setCell _ _ _ b (fun e=>by simp only at e;omega),h2.block b (by omega),hb.block b (by omega),h b hg hlt]
def qQ (p:az):aj:=((bM p.1).pos,bQ (bM p.1).size,p.2,true)
def fX (p:az):Nat:=(bM p.1).chunk.toNat
def mE (n:Nat) (p:az):Bool:=sD p.1&&decide ((bM p.1).chunk<n)
def sR (T:List (List aj)) (p:az):List (List aj):=T.set (fX p) ((T[fX p]?).getD []++[qQ p])
def gA (n:Nat):List (List aj)→List az→Option (List (List aj))
 |T,[]=>some T
 |T,p::l=>if mE n p=true then gA n (sR T p) l else none
noncomputable def cg (l:List dy) (c:Int):Option (List (List aj)):=
 if 1≤c∧c≤1000∧dR l=true then match gA c.toNat (List.replicate c.toNat []) (aY l) with
  |none=>none
  |some T=>if T.all dD=true then some T else none
 else none
theorem wB {l:List dy} (h:dR l=true):∀p∈aY l,sD p.1=true∧1≤p.2∧p.2=((df l).count p.1:Nat):=fun p hp=>by
 have h1:=((lH h).2 p).1 hp;refine ⟨?_,?_,h1.2⟩
 ·have hm:=h1.1
  unfold df at hm;rw[List.mem_flatten] at hm;obtain ⟨r,hr,hx⟩:=hm;rw[List.mem_map] at hr;obtain ⟨d,hd,rfl⟩:=hr;unfold ij at hx;rw[List.mem_map] at hx;obtain ⟨x,hx,Gj⟩:=hx;have hd:=(dw.1 h).1 d hd;unfold cI at hd;simp only[Bool.and_eq_true,List.all_eq_true] at hd;have:=hd.2 x hx;unfold dH at this;simp only[Bool.and_eq_true] at this;rw[← Gj];exact this.1
 ·rw[h1.2]
  have:=List.count_pos_iff.2 h1.1;omega
theorem G4:∀(l:List az) (out:List az),(eh out l).length≤out.length+l.length
 |[],out=>by simp[eh]
 |a::l,out=>by have h1:=G4 l (fE out a.2 ((kh out a.2).1+1) false);have h2:=qC out a.2 ((kh out a.2).1+1) false;simp only[eh,List.length_cons];simp only[Bool.false_eq_true,if_false] at h2;omega
theorem C5:∀(l:List dy) (out:List az),(eW out l).length≤out.length+(df l).length
 |[],out=>by simp[eW]
 |d::l,out=>by
  have h1:=C5 l (eh out (aB d.map));have h2:=G4 (aB d.map) out;have e:(df (d::l)).length=(aB d.map).length+(df l).length:=by unfold df ij;rw[List.map_cons,List.flatten_cons,List.length_append,List.length_map]
  simp only[eW];omega
theorem tM {l:List dy} {n:Nat} (h:dR l=true→(df l).length≤n):(aY l).length≤n:=by
 unfold aY
 split
 ·rename_i hm
  have h1:=C5 l [];have h2:=h hm;simp only[List.length_nil] at h1;omega
 ·exact Nat.zero_le _
theorem C6 (T:List (List aj)) (p:az):(sR T p).length=T.length:=by unfold sR;rw[List.length_set]
theorem o7 {n k:Nat} {T:List (List aj)} {l:List az} {p:az} (h:l[k]?=some p):gA n T (l.drop k)=if mE n p=true then gA n (sR T p) (l.drop (k+1)) else none:=by obtain ⟨hk,hx⟩:=List.getElem?_eq_some_iff.1 h;rw[List.drop_eq_getElem_cons hk,hx];rfl
def aJ (W:World) (b:Nat) (cs:List Value):Prop:=∃T,W.heap[b]?=some (.cells cs.toArray T (0,0))
theorem aJ.lt {W:World} {b:Nat} {cs:List Value} (h:aJ W b cs):b<W.heap.size:=by obtain ⟨T,h⟩:=h;exact (Array.getElem?_eq_some_iff.1 h).1
theorem aJ.cell {W:World} {b j:Nat} {cs:List Value} {u:Value} (h:aJ W b cs) (hj:cs[j]?=some u):W.cell? ⟨b,j,none⟩=some u:=by
 obtain ⟨T,h⟩:=h;simp only[World.cell?,h]
 simpa using hj
theorem aJ.free {W:World} {b:Nat} {cs:List Value} (h:aJ W b cs) (j:Nat):W.frozen? ⟨b,j,none⟩=false:=by obtain ⟨T,h⟩:=h;simp only[World.frozen?,h];simp
theorem aJ.abd {W:World} {b:Nat} {cs:List Value} (h:aJ W b cs):W.frozen? ⟨b,0,none⟩=false∧W.frozen? ⟨b,1,none⟩=false∧W.frozen? ⟨b,2,none⟩=false:=⟨h.free 0,h.free 1,h.free 2⟩
theorem aJ.amM {W:World} {b:Nat} {cs:List Value} (h:aJ W b cs):W.frozen? ⟨b,0,none⟩=false∧W.frozen? ⟨b,1,none⟩=false∧W.frozen? ⟨b,2,none⟩=false∧W.frozen? ⟨b,3,none⟩=false:=⟨h.free 0,h.free 1,h.free 2,h.free 3⟩
theorem aJ.ie {W:World} {b:Nat} {cs:List Value} (h:aJ W b cs):W.frozen? ⟨b,0,none⟩=false∧W.frozen? ⟨b,1,none⟩=false∧W.frozen? ⟨b,2,none⟩=false∧W.frozen? ⟨b,3,none⟩=false∧W.frozen? ⟨b,4,none⟩=false:=⟨h.free 0,h.free 1,h.free 2,h.free 3,h.free 4⟩
theorem aJ.fj {W:World} {b:Nat} {cs:List Value} (h:aJ W b cs):W.frozen? ⟨b,0,none⟩=false∧W.frozen? ⟨b,1,none⟩=false∧W.frozen? ⟨b,2,none⟩=false∧W.frozen? ⟨b,3,none⟩=false∧W.frozen? ⟨b,4,none⟩=false∧W.frozen? ⟨b,5,none⟩=false∧W.frozen? ⟨b,6,none⟩=false∧W.frozen? ⟨b,7,none⟩=false∧W.frozen? ⟨b,8,none⟩=false∧W.frozen? ⟨b,9,none⟩=false:=⟨h.free 0,h.free 1,h.free 2,h.free 3,h.free 4,h.free 5,h.free 6,h.free 7,h.free 8,h.free 9⟩
theorem aJ.below {W W':World} {b:Nat} {cs:List Value} (h:aJ W b cs) (hb:Below W.heap.size W W'):aJ W' b cs:=by have hl:=h.lt;obtain ⟨T,h⟩:=h;exact ⟨T,(hb.block b hl).trans h⟩
theorem aJ.grown {W W':World} {b:Nat} {cs:List Value} {row:Option Nat} (h:aJ W b cs) (hg:W.grownBy W' row) (hr:some b≠row):aJ W' b cs:=by have hl:=h.lt;obtain ⟨T,h⟩:=h;exact ⟨T,(hg.block b hl hr).trans h⟩
theorem aJ.set {W:World} {b:Nat} {cs:List Value} (h:aJ W b cs) (j:Nat) (u:Value):aJ (W.setCell ⟨b,j,none⟩ u) b (cs.set j u):=by obtain ⟨T,h⟩:=h;exact ⟨T,by rw[heap_setCell_same W b j _ T u h,List.setIfInBounds_toArray]⟩
theorem aJ.far {W:World} {b b':Nat} {cs:List Value} (h:aJ W b cs) (hne:b'≠b) (j:Nat) (u:Value):aJ (W.setCell ⟨b',j,none⟩ u) b cs:=by obtain ⟨T,h⟩:=h;exact ⟨T,by rw[heap_setCell_other W ⟨b',j,none⟩ b u (fun e=>hne e.symm)];exact h⟩
theorem aJ.new (W:World) (cs:List Value) (T:TypeId):aJ (W.alloc (.cells cs.toArray T)) W.heap.size cs:=⟨T,World.alloc_heap_new W _⟩
theorem aJ.alloc {W:World} {b:Nat} {cs:List Value} (h:aJ W b cs) (o:Obj):aJ (W.alloc o) b cs:=h.below ((Below.refl _ _).alloc (Nat.le_refl _) _)
theorem aJ.drew {W:World} {b:Nat} {cs:List Value} (h:aJ W b cs):aJ W.drew b cs:=h.below (Below.refl _ _).drew
theorem aJ.one {W:World} {b:Nat} {a0:Value} (h:aJ W b [a0]):W.cell? ⟨b,0,none⟩=some a0:=h.cell rfl
theorem aJ.two {W:World} {b:Nat} {a0 a1:Value} (h:aJ W b [a0,a1]):W.cell? ⟨b,0,none⟩=some a0∧W.cell? ⟨b,1,none⟩=some a1:=⟨h.cell rfl,h.cell rfl⟩
theorem aJ.four {W:World} {b:Nat} {a0 a1 a2 a3:Value} (h:aJ W b [a0,a1,a2,a3]):W.cell? ⟨b,0,none⟩=some a0∧W.cell? ⟨b,1,none⟩=some a1∧W.cell? ⟨b,2,none⟩=some a2∧W.cell? ⟨b,3,none⟩=some a3:=⟨h.cell rfl,h.cell rfl,h.cell rfl,h.cell rfl⟩
theorem aJ.five {W:World} {b:Nat} {a0 a1 a2 a3 a4:Value} (h:aJ W b [a0,a1,a2,a3,a4]):W.cell? ⟨b,0,none⟩=some a0∧W.cell? ⟨b,1,none⟩=some a1∧W.cell? ⟨b,2,none⟩=some a2∧W.cell? ⟨b,3,none⟩=some a3∧W.cell? ⟨b,4,none⟩=some a4:=⟨h.cell rfl,h.cell rfl,h.cell rfl,h.cell rfl,h.cell rfl⟩
theorem aJ.ten {W:World} {b:Nat} {a0 a1 a2 a3 a4 a5 a6 a7 a8 a9:Value} (h:aJ W b [a0,a1,a2,a3,a4,a5,a6,a7,a8,a9]):W.cell? ⟨b,0,none⟩=some a0∧W.cell? ⟨b,1,none⟩=some a1∧W.cell? ⟨b,2,none⟩=some a2∧W.cell? ⟨b,3,none⟩=some a3∧W.cell? ⟨b,4,none⟩=some a4∧W.cell? ⟨b,5,none⟩=some a5∧W.cell? ⟨b,6,none⟩=some a6∧W.cell? ⟨b,7,none⟩=some a7∧W.cell? ⟨b,8,none⟩=some a8∧W.cell? ⟨b,9,none⟩=some a9:=⟨h.cell rfl,h.cell rfl,h.cell rfl,h.cell rfl,h.cell rfl,h.cell rfl,h.cell rfl,h.cell rfl,h.cell rfl,h.cell rfl⟩
theorem aJ.mZ {W:World} {b:Nat} {x0 x1 x2 x3 x4:Value} {cs:List Value} (h:aJ W b (x0::x1::x2::x3::x4::cs)) (y0 y1 y2 y3 y4:Value):aJ (((((W.setCell ⟨b,0,none⟩ y0).setCell ⟨b,1,none⟩ y1).setCell ⟨b,2,none⟩ y2).setCell ⟨b,3,none⟩ y3).setCell ⟨b,4,none⟩ y4) b (y0::y1::y2::y3::y4::cs):=((((h.set 0 y0).set 1 y1).set 2 y2).set 3 y3).set 4 y4
theorem aJ.za {W:World} {b b':Nat} {cs:List Value} (h:aJ W b cs) (hne:b'≠b) (y0 y1 y2 y3 y4:Value):aJ (((((W.setCell ⟨b',0,none⟩ y0).setCell ⟨b',1,none⟩ y1).setCell ⟨b',2,none⟩ y2).setCell ⟨b',3,none⟩ y3).setCell ⟨b',4,none⟩ y4) b cs:=((((h.far hne 0 y0).far hne 1 y1).far hne 2 y2).far hne 3 y3).far hne 4 y4
def cS (W:World) (b:Nat) (y0 y1 y2 y3 y4 y5 y6 y7 y8 y9:Value):World:=(((((((((W.setCell ⟨b,0,none⟩ y0).setCell ⟨b,1,none⟩ y1).setCell ⟨b,2,none⟩ y2).setCell ⟨b,3,none⟩ y3).setCell ⟨b,4,none⟩ y4).setCell ⟨b,5,none⟩ y5).setCell ⟨b,6,none⟩ y6).setCell ⟨b,7,none⟩ y7).setCell ⟨b,8,none⟩ y8).setCell ⟨b,9,none⟩ y9
theorem aJ.cS {W:World} {b:Nat} {x0 x1 x2 x3 x4 x5 x6 x7 x8 x9:Value} (h:aJ W b [x0,x1,x2,x3,x4,x5,x6,x7,x8,x9]) (y0 y1 y2 y3 y4 y5 y6 y7 y8 y9:Value):aJ (cS W b y0 y1 y2 y3 y4 y5 y6 y7 y8 y9) b [y0,y1,y2,y3,y4,y5,y6,y7,y8,y9]:=(((((((((h.set 0 y0).set 1 y1).set 2 y2).set 3 y3).set 4 y4).set 5 y5).set 6 y6).set 7 y7).set 8 y8).set 9 y9
theorem ew {w W:World} {B b:Nat} (h:Below B w W) (hb:B≤b) (y0 y1 y2 y3 y4 y5 y6 y7 y8 y9:Value):Below B w (cS W b y0 y1 y2 y3 y4 y5 y6 y7 y8 y9):=(((((((((h.setCell (p:=⟨b,0,none⟩) hb y0).setCell (p:=⟨b,1,none⟩) hb y1).setCell (p:=⟨b,2,none⟩) hb y2).setCell (p:=⟨b,3,none⟩) hb y3).setCell (p:=⟨b,4,none⟩) hb y4).setCell (p:=⟨b,5,none⟩) hb y5).setCell (p:=⟨b,6,none⟩) hb y6).setCell (p:=⟨b,7,none⟩) hb y7).setCell (p:=⟨b,8,none⟩) hb y8).setCell (p:=⟨b,9,none⟩) hb y9
theorem cT {w W:World} {B b:Nat} (h:Below B w W) (hb:B≤b) (y0 y1 y2 y3 y4:Value):Below B w (((((W.setCell ⟨b,0,none⟩ y0).setCell ⟨b,1,none⟩ y1).setCell ⟨b,2,none⟩ y2).setCell ⟨b,3,none⟩ y3).setCell ⟨b,4,none⟩ y4):=((((h.setCell (p:=⟨b,0,none⟩) hb y0).setCell (p:=⟨b,1,none⟩) hb y1).setCell (p:=⟨b,2,none⟩) hb y2).setCell (p:=⟨b,3,none⟩) hb y3).setCell (p:=⟨b,4,none⟩) hb y4
theorem zb (w:World) (c1 c2:List Value) (T1 T2:TypeId):aJ ((w.alloc (.cells c1.toArray T1)).alloc (.cells c2.toArray T2)) w.heap.size c1∧aJ ((w.alloc (.cells c1.toArray T1)).alloc (.cells c2.toArray T2)) (w.heap.size+1) c2∧Below w.heap.size w ((w.alloc (.cells c1.toArray T1)).alloc (.cells c2.toArray T2)):=by refine ⟨(aJ.new w c1 T1).alloc _,?_,((Below.refl _ _).alloc (Nat.le_refl _) _).alloc (by simp) _⟩;have:=aJ.new (w.alloc (.cells c1.toArray T1)) c2 T2;rw[World.size_alloc] at this;exact this
theorem Ov (w:World) (c1 c2 c3:List Value) (T1 T2 T3:TypeId):aJ (((w.alloc (.cells c1.toArray T1)).alloc (.cells c2.toArray T2)).alloc (.cells c3.toArray T3)) w.heap.size c1∧aJ (((w.alloc (.cells c1.toArray T1)).alloc (.cells c2.toArray T2)).alloc (.cells c3.toArray T3)) (w.heap.size+1) c2∧aJ (((w.alloc (.cells c1.toArray T1)).alloc (.cells c2.toArray T2)).alloc (.cells c3.toArray T3)) (w.heap.size+1+1) c3∧Below w.heap.size w (((w.alloc (.cells c1.toArray T1)).alloc (.cells c2.toArray T2)).alloc (.cells c3.toArray T3)):=by obtain ⟨h1,h2,h3⟩:=zb w c1 c2 T1 T2;refine ⟨h1.alloc _,h2.alloc _,?_,h3.alloc (by simp;omega) _⟩;have:=aJ.new ((w.alloc (.cells c1.toArray T1)).alloc (.cells c2.toArray T2)) c3 T3;rw[World.size_alloc,World.size_alloc] at this;exact this
theorem akI (w:World) (c1 c2 c3 c4 c5:List Value) (T1 T2 T3 T4 T5:TypeId):aJ (((((w.alloc (.cells c1.toArray T1)).alloc (.cells c2.toArray T2)).alloc (.cells c3.toArray T3)).alloc (.cells c4.toArray T4)).alloc (.cells c5.toArray T5)) w.heap.size c1∧aJ (((((w.alloc (.cells c1.toArray T1)).alloc (.cells c2.toArray T2)).alloc (.cells c3.toArray T3)).alloc (.cells c4.toArray T4)).alloc (.cells c5.toArray T5)) (w.heap.size+1) c2∧aJ (((((w.alloc (.cells c1.toArray T1)).alloc (.cells c2.toArray T2)).alloc (.cells c3.toArray T3)).alloc (.cells c4.toArray T4)).alloc (.cells c5.toArray T5)) (w.heap.size+1+1) c3∧aJ (((((w.alloc (.cells c1.toArray T1)).alloc (.cells c2.toArray T2)).alloc (.cells c3.toArray T3)).alloc (.cells c4.toArray T4)).alloc (.cells c5.toArray T5)) (w.heap.size+1+1+1) c4∧aJ (((((w.alloc (.cells c1.toArray T1)).alloc (.cells c2.toArray T2)).alloc (.cells c3.toArray T3)).alloc (.cells c4.toArray T4)).alloc (.cells c5.toArray T5)) (w.heap.size+1+1+1+1) c5∧Below w.heap.size w (((((w.alloc (.cells c1.toArray T1)).alloc (.cells c2.toArray T2)).alloc (.cells c3.toArray T3)).alloc (.cells c4.toArray T4)).alloc (.cells c5.toArray T5)):=by obtain ⟨h1,h2,h3,h4⟩:=Ov w c1 c2 c3 T1 T2 T3;obtain ⟨k1,k2,k3⟩:=zb (((w.alloc (.cells c1.toArray T1)).alloc (.cells c2.toArray T2)).alloc (.cells c3.toArray T3)) c4 c5 T4 T5;rw[World.size_alloc,World.size_alloc,World.size_alloc] at k1 k2;exact ⟨(h1.alloc _).alloc _,(h2.alloc _).alloc _,(h3.alloc _).alloc _,k1,k2,(h4.alloc (by simp;omega) _).alloc (by simp;omega) _⟩
def pZ:List Bool→Nat
 |[]=>0
 |true::_=>0
 |false::l=>pZ l+1
theorem E6:∀l:List Bool,pZ l≤l.length
 |[]=>Nat.le_refl _
 |true::l=>Nat.zero_le _
 |false::l=>by simp only[pZ,List.length_cons];have:=E6 l;omega
theorem xg:∀(l:List Bool) (j:Nat),j<pZ l→l[j]?=some false
 |[],j,h=>by simp[pZ] at h
 |true::l,j,h=>by simp[pZ] at h
 |false::l,0,_=>rfl
 |false::l,j+1,h=>by rw[List.getElem?_cons_succ];exact xg l j (by simp only[pZ] at h;omega)
theorem xh:∀(l:List Bool),pZ l<l.length→l[pZ l]?=some true
 |[],h=>by simp[pZ] at h
 |true::l,_=>rfl
 |false::l,h=>by simp only[pZ,List.getElem?_cons_succ];exact xh l (by simp only[pZ,List.length_cons] at h;omega)
def jl (u:List Bool) (k:Nat):List (Nat×Nat):=if _h:k<u.length then (if 0<pZ (u.drop k) then [(k,pZ (u.drop k))] else [])++jl u (k+pZ (u.drop k)+1) else []
termination_by u.length-k
theorem sj {u:List Bool} {k:Nat} (h:u.length≤k):jl u k=[]:=by rw[jl,dif_neg (by omega)]
theorem I3 {u:List Bool} {k z:Nat} (h:k<u.length) (hz:pZ (u.drop k)=z):jl u k=(if 0<z then [(k,z)] else [])++jl u (k+z+1):=by rw[jl,dif_pos h,hz]
def Be (n:Int) (L:List (Nat×Nat)):Int:=match L.find? (fun y=>decide (n≤(y.2:Int))) with|some y=>y.1|none => -1
theorem qZ {u:List Bool} {n:Int}:∀(j k f:Nat),(∀i,i<j→iR u (k+i) n=false)→gP u n (j+f) k=gP u n f (k+j)
 |0,k,f,_=>by rw[Nat.zero_add];rfl
 |j+1,k,f,h=>by rw[show j+1+f=(j+f)+1 by omega,gP,if_neg (by have:=h 0 (by omega);rw[Nat.add_zero] at this;rw[this];simp)];rw[qZ j (k+1) f (fun i hi=>by have:=h (i+1) (by omega);rw[show k+(i+1)=k+1+i by omega] at this;exact this)];rw[show k+1+j=k+(j+1) by omega]
theorem Ls {u:List Bool} {n:Int} (hn:1≤n):∀(m k:Nat),u.length-k≤m→gP u n (u.length-k) k=Be n (jl u k):=by
 intro m
 induction m with
 |zero=>intro k hk;rw[show u.length-k=0 by omega,sj (by omega)];rfl
 |succ m ih=>
  intro k hk;by_cases h:k<u.length
  case neg=>rw[show u.length-k=0 by omega,sj (by omega)];rfl
  case pos=>
  obtain ⟨z,hz⟩:=aG (pZ (u.drop k));have hzl:z≤u.length-k:=by rw[← hz,← List.length_drop];exact E6 _
  have I4:∀j,j<z→u[k+j]?=some false:=fun j hj=>by rw[← List.getElem?_drop];exact xg _ j (by rw[hz];exact hj)
  have xL:k+z<u.length→u[k+z]?=some true:=fun hl=>by rw[← List.getElem?_drop,← hz];exact xh _ (by rw[hz,List.length_drop];omega)
  rw[I3 h hz];by_cases hnz:n≤(z:Int)
  ·rw[if_pos (by omega)]
   have hf:iR u k n=true:=Ab ⟨hn,by omega⟩ (fun j hj=>I4 j (by omega));obtain ⟨f,hf2⟩:∃f,u.length-k=f+1:=⟨u.length-k-1,by omega⟩
   rw[hf2,gP,if_pos hf];unfold Be;rw[List.cons_append,List.find?_cons_of_pos (by simpa using hnz)]
  ·have hno:∀i,i<z+1→k+i<u.length→iR u (k+i) n=false:=fun i hi hl=>by
    by_cases UZ:1≤n∧n≤(u.length:Int)-(k+i:Nat)
    ·have hkz:k+z<u.length:=by omega
     exact CZ (k:=z-i) (by omega) (by rw[show k+i+(z-i)=k+z by omega];exact xL hkz)
    ·exact tK UZ
   have hit:Be n ((if 0<z then [(k,z)] else [])++jl u (k+z+1))=Be n (jl u (k+z+1)):=by
    unfold Be;by_cases h0:0<z
    ·rw[if_pos h0,List.cons_append,List.nil_append,List.find?_cons_of_neg (by simpa using hnz)]
    ·rw[if_neg h0,List.nil_append]
   rw[hit];by_cases hend:k+z<u.length
   ·rw[← ih (k+z+1) (by omega)]
    have:=qZ (u:=u) (n:=n) (z+1) k (u.length-(k+z+1)) (fun i hi=>hno i hi (by omega));rw[show z+1+(u.length-(k+z+1))=u.length-k by omega] at this;rw[this];rfl
   ·rw[sj (by omega)]
    have:=qZ (u:=u) (n:=n) z k 0 (fun i hi=>hno i (by omega) (by omega));rw[show z+0=u.length-k by omega] at this;rw[this];rfl
theorem Lt {u:List Bool} {n:Int} (hn:1≤n):fH u n=Be n (jl u 0):=by have:=Ls (u:=u) hn u.length 0 (by omega);unfold fH;rw[Nat.sub_zero] at this;exact this
theorem Tp {n:Int} {L pre:List (Nat×Nat)} {x:Nat×Nat} (hp:pre++[x] <+: L) (hn:∀y∈pre,¬n≤(y.2:Int)) (hx:n≤(x.2:Int)):Be n L=x.1:=by obtain ⟨r,rfl⟩:=hp;unfold Be;rw[List.append_assoc,List.find?_append,List.find?_eq_none.2 (fun y hy=>by simpa using hn y hy),Option.none_or,List.singleton_append,List.find?_cons_of_pos (by simpa using hx)]
theorem WO {n:Int} {L:List (Nat×Nat)} (hn:∀y∈L,¬n≤(y.2:Int)):Be n L = -1:=by unfold Be;rw[List.find?_eq_none.2 (fun y hy=>by simpa using hn y hy)]
theorem Lu {u:List Bool} {n:Int} (hn:n<1):fH u n = -1:=by
 have key:∀(f a:Nat),gP u n f a = -1:=by
  intro f
  induction f with
  |zero=>intro a;rfl
  |succ f ih=>intro a;rw[gP,if_neg (by rw[tK (by omega)];simp)];exact ih _
 exact key _ _
theorem Pm:(Tryz.prog.info? 4).map (fun i=>(i.zero,i.size,i.bytes))=some (some (.bool false),1,1):=by kernel_rfl
theorem rr (p:Option Addr) (n c:Nat) (xs:List Value) (w:World) (hs:iN w p n 1 xs) (hn:n≤1000000000) :
 Calls Tryz.prog 70 #[.slice p n c] w fun e w'=>∃v',e=.returned v'∧w'.ownsRow w.heap.size 4 1 v' n xs∧Bw w w':=by
 obtain ⟨hl,hnil,h1,hx⟩:=hs;cases p with
 |none=>have hq:∀w:World,(binOp .eql 24 (.slice none 0 c) (.slice none 0 0)).run Tryz.prog w=.ok (.bool true) w:=fun w=>Lib.run_eql_slice_nil w 24 4 none 0 c 0 0 Tryz.underlying24;obtain rfl:=hnil rfl;obtain rfl:xs=[]:=List.eq_nil_of_length_eq_zero (by rw[hl,Nat.zero_mul]);clear hnil hx h1 hl hn;go_enter Tryz.func70,Tryz.ntmps70;go_wp2_with fail;go_ret;exact ⟨_,rfl,World.ownsRow_nil _ _ _ _,aH⟩
 |some a=>
  have HX:=aa (hx a rfl);have HL:=aa hl;have H1:=aa h1;have HN:=aa hn;clear hnil hx h1 hl hn;have hq:∀w:World,(binOp .eql 24 (.slice (some a) n c) (.slice none 0 0)).run Tryz.prog w=.ok (.bool false) w:=fun w=>Lib.run_eql_slice_nil w 24 4 (some a) n c 0 0 Tryz.underlying24;obtain ⟨i0,hi,hz0,hz1,hz2⟩:=info_parts Pm;have HB:=aa (((Below.refl w.heap.size w).alloc aT (.cells #[] 4)));go_enter Tryz.func70,Tryz.ntmps70;go_wp2_with (at_builtin;refine wpList_append_own _ rfl _ _ 24 rfl w.heap.size 4 i0 (.bool false) 1 1 Tryz.underlying24 hi hz0 hz1 hz2 rfl (by decide) _ 0 [] rfl (World.ownsRow_made w #[] 0 aT (by unfold maxLen;omega) rfl) a n c xs rfl ?_ ?_ ?_ ?_ ?_ ?_ ?_)
  ·exact HL.o
  ·intro j u hu;exact cell_later HB (HX j u hu)
  ·exact H1.o
  ·have:=HN.o;unfold maxLen;omega
  ·have:=HN.o;omega
  ·simp
  ·intro v' w1 hown hg _
   have HO:=aa hown;have HG:=aa hg;clear hown hg;go_wp2_with fail;go_ret;exact ⟨v',rfl,by simpa using HO.o,HB.grown HG (by simp) (fun k e=>by simp[Value.ownBlock] at e;omega)⟩
def Pn (B n:Nat) (v:Value) (ys:List Value) (w:World) (e:Ending) (w':World):Prop:=
 ∃v',e=.returned v'∧w'.ownsRow B 52 4 v' (n-1) ys∧w.grownBy w' v.ownBlock
abbrev Bh:Value:=.agg #[.int .i64 0,.int .i64 0,.int .i64 0,.bool false]
theorem Bi (B n i g cap:Nat) (xs:List Value) (w:World) (hown:w.ownsRow B 52 4 (.slice (some ⟨g,0,none⟩) n cap) n xs) (hx1:∀u∈xs,u.oneCell'=true) (hn:n≤1000000) (hi:i<n) :
 Calls Tryz.prog 172 #[.slice (some ⟨g,0,none⟩) n cap,.int .i64 i,.int .i64 ((i:Int)+1)] w (Pn B n (.slice (some ⟨g,0,none⟩) n cap) (xs.take (i*4)++xs.drop ((i+1)*4)) w):=by
 obtain ⟨cur,hg,hBg,UE,hcm,hsz,Bg⟩:=bp hown;obtain ⟨i0,iP,hz0,hz1,hz2⟩:=info_parts rj;have uA:=hown.1;have ql:cur.toList.length=cap*4:=by simp[hsz]
 have xE:(xs.drop ((i+1)*4)).length=(n-(i+1))*4:=by rw[List.length_drop,uA];omega
 have lq:∀j u,xs[j]?=some u→w.cell? ⟨g,j,none⟩=some u:=fun j u hu=>by have:=hown.cells (g:=g) rfl j u hu;rwa [jS] at this
 obtain ⟨A,hA⟩:∃A:Array Value,(cur.toList.take (i*i0.size)++xs.drop ((i+1)*4)++cur.toList.drop (i*i0.size+(xs.drop ((i+1)*4)).length)).toArray=A:=⟨_,rfl⟩
 have hAs:A.size=cap*4:=by rw[← hA,hz1,List.size_toArray,List.length_append,List.length_append,List.length_take,xE,List.length_drop,ql];omega
 have hAt:A.toList.take ((n-1)*4)=xs.take (i*4)++xs.drop ((i+1)*4):=by
  have e1:cur.toList.take (i*4)=xs.take (i*4):=by rw[← Bg,List.take_take];congr 1;omega
  have e2:(xs.take (i*4)++xs.drop ((i+1)*4)).length=(n-1)*4:=by rw[List.length_append,List.length_take,uA,xE];omega
  rw[← hA,hz1,e1,List.toList_toArray,List.take_append_of_le_length (by omega),List.take_of_length_le (by omega)]
 have hap:∀(ad:Addr) (ty:TypeId) (W:World) (cc:Nat),W.heap=w.heap→(n-(i+1)=0∨ad=⟨g,(i+1)*4,none⟩) →
  (Builtin.append_ #[45,45] ty #[.slice (some ⟨g,0,none⟩) i cap,.slice (some ad) (n-(i+1)) cc]).run Tryz.prog W=.ok (.slice (some ⟨g,0,none⟩) (n-1) cap) (W.setRow g A):=by
  intro ad ty W cc hW had;have h:=run_append_room (P:=Tryz.prog) W 45 ty 52 i0 Tryz.underlying45 iP g i cap cur (by rw[hW];exact hg) ad (n-(i+1)) cc (xs.drop ((i+1)*4)) (by rw[hz1];exact xE)
   (fun j u hu=>by
    rcases had with h0|rfl
    ·have:(xs.drop ((i+1)*4)).length=0:=by rw[xE,h0,Nat.zero_mul]
     rw[List.eq_nil_of_length_eq_zero this] at hu;simp at hu
    ·rw[nI]
     have:=lq ((i+1)*4+j) u (by rwa [List.getElem?_drop] at hu);simp only[World.cell?,hW] at this ⊢;exact this) (fun v hv=>hx1 v (List.mem_of_mem_drop hv)) (by omega) (by rw[hz1,hsz,xE];omega)
  rw[hA,show i+(n-(i+1))=n-1 by omega] at h;exact h
 have hzs:(Bh).cells.size=4:=rfl;have hzl:(Builtin.zeroCells Bh.cells 1).toList.length=4:=by rw[Array.length_toList,size_zeroCells,hzs]
 obtain ⟨A2,LD⟩:∃A2:Array Value,(A.toList.take ((n-1)*4)++(Builtin.zeroCells Bh.cells 1).toList++A.toList.drop ((n-1)*4+(Builtin.zeroCells Bh.cells 1).toList.length)).toArray=A2:=⟨_,rfl⟩
 have Cu:A2.size=cap*4:=by
  have:A.toList.length=cap*4:=by simp[hAs]
  rw[← LD,List.size_toArray,List.length_append,List.length_append,List.length_take,List.length_drop,hzl,this];omega
 have I6:A2.toList.take ((n-1)*4)=xs.take (i*4)++xs.drop ((i+1)*4):=by
  have:A.toList.length=cap*4:=by simp[hAs]
  rw[← LD,List.toList_toArray,List.append_assoc,List.take_append_of_le_length (by rw[List.length_take,this];omega),List.take_take,Nat.min_self,hAt]
 have Tz:∀u∈(Builtin.zeroCells Bh.cells 1).toList,u.oneCell'=true:=List.all_eq_true.1 (show ((Builtin.zeroCells Bh.cells 1).toList.all fun u=>u.oneCell')=true by kernel_rfl);have wM:∀(W:World),W.heap=(w.setRow g A).heap→∀ty cc,(Builtin.clear_ #[45] ty #[.slice (some ⟨g,(n-1)*4,none⟩) 1 cc]).run Tryz.prog W=.ok (.tuple #[]) (W.setRow g A2):=by intro W hW ty cc;have h:=Gc (P:=Tryz.prog) W 45 ty 52 Bh g ((n-1)*4) 1 cc A 52 Tryz.underlying45 (fun w=>by simp[zeroValue,typeInfo,iP,hz0]) (by rw[hW];exact setRow_heap _ _ _ _ _ _ hg) (by omega) (by rw[hzs,hAs];omega) Tz;rw[LD] at h;exact h
 have MM:=aa wM;have af1:=aa Cu;have af2:=aa I6;have HG:=aa hg;have DJ:=aa (show (xs.take (i*4)++xs.drop ((i+1)*4)).length=(n-1)*4 by rw[List.length_append,List.length_take,uA,xE];omega);have xq:=aa (And.intro hBg (And.intro (show n-1≤cap by omega) hcm));have alP:cap≤9223372036854775807:=by unfold maxLen at hcm;omega
 have hnj:¬((i:Int)=(i:Int)+1):=by omega
 have alQ:(i:Int)+1≤(n:Int):=by omega
 have afZ:(n:Int)≤4611686018427387904:=by omega
 have as6:(n:Int)≤(cap:Int):=by omega
 have hn1:¬(cap=n-1):=by omega
 have as7:((n-1:Nat):Int)≤(n:Int):=by omega
 have Yr:(0:Int)≤((n-1:Nat):Int):=by omega
 have h11:n-(n-1)=1:=by omega
 have hci:¬(cap=i):=by omega
 have hic:i≤cap:=by omega
 have as8:(i:Int)≤(cap:Int):=by omega
 have as9:(0:Int)≤(i:Int):=by omega
 have alR:(0:Int)≤(i:Int)+1:=by omega
 have hAP:=aa hap;have hnM:(n:Int)≤1000000:=by omega
 have zo:=aa hnM;clear hnM hap wM Cu I6 LD Tz hzl hzs hAt hAs hA lq xE ql iP hz0 hz1 hz2 uA hg hBg hcm hsz Bg hn hx1 hown;by_cases hjc:cap=i+1
 ·obtain rfl:cap=n:=by omega
  have WS:=hAP.out ⟨g,0,none⟩ 45 w.drew 0 rfl (.inl (by omega));rw[show cap-(i+1)=0 by omega] at WS;have hjn:(i:Int)+1=(cap:Int):=by omega
  have ata:¬((i:Int)=(cap:Int)):=by omega
  clear alQ alR hnj hjc;go_enter Tryz.func172,Tryz.ntmps172;go_wp2_with fail;go_region_law (refine nX rfl (.tmp 22) (.tmp 25) 45 45 rfl _ _ (by simp[Act.eval,Act.put]) (by simp[Act.eval,Act.put]) WS ?_);go_wp2_with fail;rw[MM.o (w.drew.setRow g A) rfl];go_wp2_with fail;go_ret;refine ⟨.slice (some ⟨g,0,none⟩) (cap-1) cap,rfl,⟨DJ.out,.inr ⟨g,cap,A2,rfl,xq.out.1,?_,xq.out.2.1,xq.out.2.2,af1,af2⟩⟩,?_⟩
  ·exact setRow_heap _ _ _ _ _ _ (setRow_heap _ _ _ _ _ _ HG)
  ·exact aX (aX (tr (kq w _) 1) (iI _ g _)) (iI _ g _)
 ·have WS:=hAP.out ⟨g,(i+1)*4,none⟩ 45 w.drew (cap-(i+1)) rfl (.inr rfl)
  go_enter Tryz.func172,Tryz.ntmps172;go_wp2_with fail;go_region_law (refine nX rfl (.tmp 22) (.tmp 25) 45 45 rfl _ _ (by simp[Act.eval,Act.put]) (by simp[Act.eval,Act.put]) WS ?_);go_wp2_with fail;rw[MM.o (w.drew.setRow g A) rfl];go_wp2_with fail;go_ret;refine ⟨.slice (some ⟨g,0,none⟩) (n-1) cap,rfl,⟨DJ.out,.inr ⟨g,cap,A2,rfl,xq.out.1,?_,xq.out.2.1,xq.out.2.2,af1,af2⟩⟩,?_⟩
  ·exact setRow_heap _ _ _ _ _ _ (setRow_heap _ _ _ _ _ _ HG)
  ·exact aX (aX (tr (kq w _) 1) (iI _ g _)) (iI _ g _)
end Go.Proofs.YtbigkioechkngaaGreat
namespace Go.Proofs.YtbigkioechkngaaGreat
open Go.RowKit Go.Shelf
def WT:Value→Option (DataW Unit×List MemPlace)
 |.agg a=>match a.toList with
  |[.int .i64 c,.int .i64 p,.int .i64 s,.bool b]=>some (.agg [.lit (.int .i64 c),.lit (.int .i64 p),.lit (.int .i64 s),.lit (.bool b)],[])
  |_=>none
 |_=>none
def Bo (x:aA):DataW Unit:=.agg [.lit (.int .i64 x.chunk),.lit (.int .i64 x.pos),.lit (.int .i64 x.size),.lit (.bool x.packed)]
theorem Fb (x:aA):WT x.agg=some (Bo x,[]):=rfl
theorem I8 {v:Value} {x:aA} {ps:List MemPlace} (h:WT v=some (Bo x,ps)):v=x.agg:=by
 unfold WT at h
 split at h
 ·rename_i a
  split at h
  ·rename_i c p s b hl
   unfold Bo at h;simp only[Option.some.injEq,Prod.mk.injEq,DataW.agg.injEq,List.cons.injEq,DataW.lit.injEq,Lit.int.injEq,Lit.bool.injEq,true_and,and_true] at h;obtain ⟨⟨h1,h2,h3,h4⟩,_⟩:=h;subst h1;subst h2;subst h3;subst h4;unfold aA.agg;congr 1;exact Array.toList_inj.1 (by rw[hl])
  ·cases h
 ·cases h
def jz (W:World) (b n:Nat) (f:Int→Option aA):Prop:=
 ∃D:DataW Unit,W.ownsMap Tryz.prog 3 WT b n D∧Maps.IsMap D ∧
  (∀k,aP k→D.atKey (.int .i64 k) (Bo aA.zero)=Bo ((f k).getD aA.zero))∧∀k,aP k→Maps.has D (.int .i64 k)=(f k).isSome
def ru (f:Int→Option aA) (k:Int) (x:aA):Int→Option aA:=fun q=>if q=k then some x else f q
theorem jz.new (W:World):jz (W.alloc (.map #[] 0)) W.heap.size 0 (fun _=>none):=
 ⟨.map [],World.ownsMap_made W Tryz.prog 3 _,Maps.isMap_empty,fun k _=>by simp[DataW.atKey],fun k _=>by simp[Maps.has]⟩
theorem jz.kept {W W':World} {b n:Nat} {f:Int→Option aA} {row:Option Nat} (h:jz W b n f) (hg:W.grownBy W' row) (hne:some b≠row):jz W' b n f:=by obtain ⟨D,h1,h2⟩:=h;exact ⟨D,h1.kept hg hne,h2⟩
theorem jz.lt {W:World} {b n:Nat} {f:Int→Option aA} (h:jz W b n f):b<W.heap.size:=by obtain ⟨D,h1,_⟩:=h;exact h1.lt
theorem jz.below {W W':World} {b n:Nat} {f:Int→Option aA} (h:jz W b n f) (hb:Bw W W'):jz W' b n f:=by have hlt:=h.lt;obtain ⟨D,⟨es,clock,h1,h2⟩,h3⟩:=h;exact ⟨D,⟨es,clock,(hb.block b hlt).trans h1,h2⟩,h3⟩
theorem I9 (w:World):(zeroValue 50).run Tryz.prog w=.ok aA.zero.agg w:=by kernel_rfl
theorem jz.look {W:World} {b n:Nat} {f:Int→Option aA} (h:jz W b n f) {k:Int} (hk:aP k):(Instr.lookup 58 (.map (some b)) (.int .i64 k) true).run Tryz.prog W=.ok (.tuple #[((f k).getD aA.zero).agg,.bool (f k).isSome]) W:=by obtain ⟨D,h1,h2,h3,h4⟩:=h;obtain ⟨v,ps,hr,hv⟩:=h1.look_ok (Maps.int_keyed Tryz.underlying3) Tryz.underlying58 (I9 W) (Fb aA.zero) (Maps.keyOf_int_mk Tryz.underlying3 (EI hk));rw[h3 k hk] at hv;rw[h4 k hk] at hr;rw[I8 hv] at hr;exact hr
theorem jz.get {W:World} {b n:Nat} {f:Int→Option aA} (h:jz W b n f) {k:Int} (hk:aP k):(Instr.lookup 58 (.map (some b)) (.int .i64 k) false).run Tryz.prog W=.ok ((f k).getD aA.zero).agg W:=by obtain ⟨D,h1,h2,h3,h4⟩:=h;obtain ⟨v,ps,hr,hv⟩:=h1.lookup (Maps.int_keyed Tryz.underlying3) Tryz.underlying58 (I9 W) (Fb aA.zero) (Maps.keyOf_int_mk Tryz.underlying3 (EI hk));rw[h3 k hk] at hv;rw[I8 hv] at hr;exact hr
theorem jz.put {W:World} {b n:Nat} {f:Int→Option aA} (h:jz W b n f) {k:Int} (hk:aP k) (x:aA) (hn:n≤1000000):∃w',(Instr.mapUpdate 58 (.map (some b)) (.int .i64 k) x.agg).run Tryz.prog W=.ok () w'∧jz w' b (n+1) (ru f k x)∧W.grownBy w' (some b):=by
 obtain ⟨D,h1,h2,h3,h4⟩:=h;obtain ⟨w',r1,r2,r3⟩:=h1.update (Maps.int_keyed Tryz.underlying3) Tryz.underlying58 (by unfold maxLen;omega) (Maps.keyOf_int_mk Tryz.underlying3 (EI hk)) (Fb x);refine ⟨w',r1,⟨_,r2,h2.put _ _,fun q hq=>?_,fun q hq=>?_⟩,r3⟩
 ·unfold ru
  by_cases e:q=k
  ·subst e
   rw[Maps.atKey_put_same h2 (uP q),if_pos rfl];rfl
  ·rw[Maps.atKey_put_other (fun h=>e (by injection h)),h3 q hq,if_neg e]
 ·unfold ru
  by_cases e:q=k
  ·subst e
   rw[Maps.has_put_same h2 (uP q),if_pos rfl];rfl
  ·rw[Maps.has_put_other (fun h=>e (by injection h)),h4 q hq,if_neg e]
end Go.Proofs.YtbigkioechkngaaGreat
namespace Go.Proofs.YtbigkioechkngaaGreat
open Go.RowKit
theorem vw (x:aA) (w:World):Calls Tryz.prog 30 #[x.agg] w fun e w'=>e=.returned (.int .i64 (cG x))∧Bw w w':=by
 obtain ⟨c,p,s,b⟩:=x;simp only[aA.agg];have HB:=aa (show Bw w (w.alloc (.cells #[.int .i64 c,.int .i64 p,.int .i64 s,.bool b] 50)) from aq);have HC:=aa (show kY w.heap.size c p s b (w.alloc (.cells #[.int .i64 c,.int .i64 p,.int .i64 s,.bool b] 50)) from ⟨by simp,by simp,by simp,by simp⟩);by_cases hm:cE ⟨c,p,s,b⟩=true
 ·have HV:=aa (show cG ⟨c,p,s,b⟩=kx ⟨c,p,s,b⟩ by unfold cG;rw[if_pos hm])
  have hi:=(bz _).1 hm;have HM:=aa hm;clear hm;obtain ⟨k1,k2,k3,k4,k5,k6,_⟩:=hi;simp only at k1 k2 k3 k4 k5 k6;have Q6:=gD k3 k4;have k6':p≤16:=by omega
  clear k6;go_enter Tryz.func30,Tryz.ntmps30;go_wp2_with fail;refine (oV ⟨c,p,s,b⟩ _).mono ?_;rintro e w1 ⟨rfl,hb⟩;rw[HM.o];have aZ:=aV HB hb;obtain ⟨q0,q1,q2,q3⟩:=HC.below hb;have hl:=World.block_lt_of_cell? _ _ q0;clear hb;cases b
  all_goals
   go_wp2_with fail;go_ret;refine ⟨xF ?_,aZ⟩;rw[HV.o];unfold kx;simp;try omega
 ·have HV:=aa (show cG ⟨c,p,s,b⟩ = -1 by unfold cG;rw[if_neg hm])
  have HM:=aa (show cE ⟨c,p,s,b⟩=false by simpa using hm);clear hm;go_enter Tryz.func30,Tryz.ntmps30;go_wp2_with fail;refine (oV ⟨c,p,s,b⟩ _).mono ?_;rintro e w1 ⟨rfl,hb⟩;rw[HM.o];have aZ:=aV HB hb;clear hb;go_wp2_with fail;go_ret;exact ⟨xF HV.symm,aZ⟩
inductive gj (w:World):(Nat→Prop)→ag→Value→Value→Value→Prop
 |mk (F:Nat→Prop) (ks vs:List Int) (kids:List ag) (a b c:Value) (xs:List Value) (G:Nat→Nat→Prop) (X:Nat→Value×Value×Value)
  (ha:w.ownsRow 0 3 1 a ks.length (bB ks)) (hb:w.ownsRow 0 3 1 b vs.length (bB vs)) (hc:w.ownsRow 0 73 3 c kids.length xs)
  (ba:∀x∈ks,aP x) (bb:∀x∈vs,aP x)
  (fa:∀g,a.ownBlock=some g→F g) (fb:∀g,b.ownBlock=some g→F g) (fc:∀g,c.ownBlock=some g→F g)
  (hab:eD a b)
  (hx:∀j,j<kids.length→xs[j*3]?=some (X j).1∧xs[j*3+1]?=some (X j).2.1∧xs[j*3+2]?=some (X j).2.2)
  (hk:∀j t,kids[j]?=some t→gj w (G j) t (X j).1 (X j).2.1 (X j).2.2)
  (hG:∀j q,G j q→F q∧a.ownBlock≠some q∧b.ownBlock≠some q∧c.ownBlock≠some q)
  (J2:∀i j q,i≠j→G i q→¬G j q):gj w F (.mk ks vs kids) a b c
theorem gj.mono {w:World} {F F':Nat→Prop} {t:ag} {a b c:Value} (h:gj w F t a b c) (hF:∀q,F q→F' q):gj w F' t a b c:=by
 cases h with
 |mk F0 ks vs kids a b c xs G X ha hb hc ba bb fa fb fc hab hx hk hG J2=>exact .mk F' ks vs kids a b c xs G X ha hb hc ba bb (fun g h=>hF g (fa g h)) (fun g h=>hF g (fb g h)) (fun g h=>hF g (fc g h)) hab hx hk (fun j q h=>⟨hF q (hG j q h).1,(hG j q h).2⟩) J2
theorem gj.kept {w w':World} {row:Option Nat} (hg:w.grownBy w' row) {F:Nat→Prop} {t:ag} {a b c:Value} (h:gj w F t a b c):(∀q,F q→row≠some q)→gj w' F t a b c:=by
 induction h with
 |mk F ks vs kids a b c xs G X ha hb hc ba bb fa fb fc hab hx hk hG J2 ih=>
  intro hr;have far:∀(v:Value),(∀g,v.ownBlock=some g→F g)→v.ownBlock=none∨v.ownBlock≠row:=fun v hv=>by
   cases e:v.ownBlock with
   |none=>exact .inl rfl
   |some g=>exact .inr (fun h=>hr g (hv g e) h.symm)
  exact .mk F ks vs kids a b c xs G X (ha.kept hg (far a fa)) (hb.kept hg (far b fb)) (hc.kept hg (far c fc)) ba bb fa fb fc hab hx (fun j t ht=>ih j t ht (fun q hq=>hr q (hG j q hq).1)) hG J2
theorem kO {w:World} {F:Nat→Prop} {B k n:Nat} {e:TypeId} {v:Value} {xs:List Value} (h:w.ownsRow B e k v n xs) (hF:∀g,v.ownBlock=some g→F g) {p:Option Addr} {m cap:Nat} (hv:v=.slice p m cap) {j:Nat} {u:Value} (hj:xs[j]?=some u):∃g,p=some ⟨g,0,none⟩∧(mask F w).cell? ⟨g,j,none⟩=some u:=by
 subst hv;rcases aK h with ⟨_,_,h3⟩|⟨g,c,hv⟩
 ·rw[h3] at hj;simp at hj
 ·injection hv with e1 e2 e3
  subst e1;subst e2;subst e3;obtain ⟨h6,h7⟩:=List.getElem?_eq_some_iff.1 hj;have:=bJ h _ h6;rw[h7] at this;exact ⟨g,rfl,ar.2 ⟨hF g rfl,this⟩⟩
theorem DZ {w:World} {F:Nat→Prop} {v:Value} {l:List Int} (hl:∀x∈l,aP x) (h:w.ownsRow 0 3 1 v l.length (bB l)) (hF:∀g,v.ownBlock=some g→F g):fD (mask F w) v l:=by
 rcases aK h with ⟨hv,hn,_⟩|⟨g,cap,hv⟩
 ·exact ⟨none,0,by rw[hv,hn],by omega,by unfold maxLen;omega,fun i x hx=>by rw[List.eq_nil_of_length_eq_zero hn] at hx;simp at hx⟩
 ·have hh:=h
  rw[hv] at hh;obtain ⟨cur,hc,hb,h3,h4,_⟩:=bp hh;refine ⟨_,cap,hv,h3,h4,fun i x hx=>?_⟩;obtain ⟨g2,e,h5⟩:=kO h hF hv (show (bB l)[i]?=some (.int .i64 x) by unfold bB;rw[List.getElem?_map,hx];rfl);exact ⟨hl x (List.mem_of_getElem? hx),g2,0,e,by rw[Nat.zero_add];exact h5⟩
theorem gj.read {w:World} {F:Nat→Prop} {t:ag} {a b c:Value} (h:gj w F t a b c):bw (mask F w) t a b c:=by
 induction h with
 |mk F ks vs kids a b c xs G X ha hb hc ba bb fa fb fc hab hx hk hG J2 ih=>
  rw[bD];refine ⟨DZ ba ha fa,DZ bb hb fb,?_⟩;simp only[ag.kids];rcases aK hc with ⟨hv,hn,_⟩|⟨g,cap,hv⟩
  ·exact ⟨none,0,by rw[hv,hn],by omega,by unfold maxLen;omega,fun j t ht=>by rw[List.eq_nil_of_length_eq_zero hn] at ht;simp at ht⟩
  ·have hh:=hc
   rw[hv] at hh;obtain ⟨cur,hcc,jf,h3,h4,_⟩:=bp hh;refine ⟨_,cap,hv,h3,h4,fun j t ht=>?_⟩;have hj:=(List.getElem?_eq_some_iff.1 ht).1;obtain ⟨x1,x2,x3⟩:=hx j hj;obtain ⟨g1,e1,k1⟩:=kO hc fc hv x1;obtain ⟨g2,e2,k2⟩:=kO hc fc hv x2;obtain ⟨g3,e3,k3⟩:=kO hc fc hv x3;cases e1;cases e2;cases e3;refine ⟨g,0,_,_,_,rfl,by rw[Nat.zero_add];exact k1,by rw[Nat.zero_add];exact k2,by rw[Nat.zero_add];exact k3,?_⟩;exact (ih j t ht).keep (fun a v hv=>by
    have h:=ar.1 hv;exact ar.2 ⟨(hG j _ h.1).1,h.2⟩)
theorem gm {w w':World} {B k n:Nat} {e:TypeId} {v:Value} {xs:List Value} (h:w.ownsRow B e k v n xs) (hs:∀g,v.ownBlock=some g→g<w.heap.size→w'.heap[g]?=w.heap[g]?):w'.ownsRow B e k v n xs:=by
 refine ⟨h.1,?_⟩;rcases h.2 with hn|⟨g,cap,cur,rfl,hb,TR,rest⟩
 ·exact .inl hn
 ·refine .inr ⟨g,cap,cur,rfl,hb,?_,rest⟩
  rw[hs g (by simp[Value.ownBlock]) (Array.getElem?_eq_some_iff.1 TR).1];exact TR
theorem gj.same {w w':World} {F:Nat→Prop} {t:ag} {a b c:Value} (h:gj w F t a b c):(∀q,F q→q<w.heap.size→w'.heap[q]?=w.heap[q]?)→gj w' F t a b c:=by
 induction h with
 |mk F ks vs kids a b c xs G X ha hb hc ba bb fa fb fc hab hx hk hG J2 ih=>intro hs;exact .mk F ks vs kids a b c xs G X (gm ha fun g h hl=>hs g (fa g h) hl) (gm hb fun g h hl=>hs g (fb g h) hl) (gm hc fun g h hl=>hs g (fc g h) hl) ba bb fa fb fc hab hx (fun j t ht=>ih j t ht (fun q hq hl=>hs q (hG j q hq).1 hl)) hG J2
theorem gj.vals {w w':World} {F:Nat→Prop} {ks vs vs':List Int} {kids:List ag} {a b c:Value} (h:gj w F (.mk ks vs kids) a b c) (hb':w'.ownsRow 0 3 1 b vs'.length (bB vs')) (bb':∀x∈vs',aP x) (hs:∀q,q<w.heap.size→b.ownBlock≠some q→w'.heap[q]?=w.heap[q]?):gj w' F (.mk ks vs' kids) a b c:=by
 cases h with
 |mk F0 ks vs kids a b c xs G X ha hb hc ba bb fa fb fc hab hx hk hG J2=>
  have hcb:eD c b:=cR hc hb (by decide);have far:∀(v:Value),eD v b→∀g,v.ownBlock=some g→b.ownBlock≠some g:=fun v hv g e h=>by
   rcases hv with h1|h1
   ·rw[e] at h1;cases h1
   ·exact h1 (by rw[e,h])
  exact .mk F ks vs' kids a b c xs G X (gm ha fun g h hl=>hs g hl (far a hab g h)) hb' (gm hc fun g h hl=>hs g hl (far c hcb g h)) ba bb' fa fb fc hab hx (fun j t ht=>(hk j t ht).same (fun q hq hl=>hs q hl (hG j q hq).2.2.1)) hG J2
theorem gj.push {w:World} {F K:Nat→Prop} {ks vs:List Int} {kids:List ag} {t:ag} {a b c x y z:Value} (h:gj w F (.mk ks vs kids) a b c) (aa9:gj w K t x y z) (hd:∀q,K q→¬F q) (hl:∀q,F q∨K q→q<w.heap.size):∃xs,w.ownsRow 0 73 3 c kids.length xs∧∀(w2:World) (c':Value) (F':Nat→Prop),w.grownBy w2 c.ownBlock→w2.ownsRow 0 73 3 c' (kids.length+1) (xs++[x,y,z])→(c'.ownBlock=c.ownBlock∨∃g,c'.ownBlock=some g∧w.heap.size≤g)→(∀q,F q∨K q→F' q)→(∀g,c'.ownBlock=some g→F' g)→gj w2 F' (.mk ks vs (kids++[t])) a b c':=by
 cases h with
 |mk F0 ks vs kids a b c xs G X ha hb hc ba bb fa fb fc hab hx hk hG J2=>
  refine ⟨xs,hc,fun w2 c' F' hg hc' kT hF' hFc=>?_⟩;have uA:xs.length=kids.length*3:=hc.1;have hac:eD a c:=cR ha hc (by decide);have RD:eD b c:=cR hb hc (by decide);have UE:∀q,F q∨K q→(F q→c.ownBlock≠some q)→c'.ownBlock≠some q:=fun q hq hne e=>by
   rcases kT with h1|⟨g,h1,h2⟩
   ·rw[h1] at e
    rcases hq with hq|hq
    ·exact hne hq e
    ·exact hd q hq (fc q e)
   ·rw[h1] at e;injection e with e
    have:=hl q hq;omega
  refine .mk F' ks vs (kids++[t]) a b c' (xs++[x,y,z]) (fun j q=>if j=kids.length then K q else G j q) (fun j=>if j=kids.length then (x,y,z) else X j) (ha.kept hg hac) (hb.kept hg RD) (by rw[List.length_append];exact hc') ba bb (fun g h=>hF' g (.inl (fa g h))) (fun g h=>hF' g (.inl (fb g h))) hFc hab (fun j hj=>?_) (fun j s hs=>?_) (fun j q hq=>?_) (fun i j q xS hi hj=>?_)
  ·rw[List.length_append] at hj
   simp only[List.length_cons,List.length_nil] at hj;by_cases e:j=kids.length
   ·subst e
    simp only[if_true];rw[List.getElem?_append_right (by omega),List.getElem?_append_right (by omega),List.getElem?_append_right (by omega),uA,show kids.length*3-kids.length*3=0 by omega,show kids.length*3+1-kids.length*3=1 by omega,show kids.length*3+2-kids.length*3=2 by omega];exact ⟨rfl,rfl,rfl⟩
   ·simp only[if_neg e]
    rw[List.getElem?_append_left (by omega),List.getElem?_append_left (by omega),List.getElem?_append_left (by omega)];exact hx j (by omega)
  ·by_cases e:j=kids.length
   ·subst e
    rw[List.getElem?_append_right aT,Nat.sub_self] at hs;simp only[List.getElem?_cons_zero,Option.some.injEq] at hs;subst hs;simp only[if_true];exact aa9.kept hg (fun q hq e=>hd q hq (fc q e))
   ·have hj:=(List.getElem?_eq_some_iff.1 hs).1
    rw[List.length_append] at hj;simp only[List.length_cons,List.length_nil] at hj;rw[List.getElem?_append_left (by omega)] at hs;simp only[if_neg e];exact (hk j s hs).kept hg (fun q hq=>(hG j q hq).2.2.2)
  ·by_cases e:j=kids.length
   ·rw[if_pos e] at hq
    exact ⟨hF' q (.inr hq),fun h=>hd q hq (fa q h),fun h=>hd q hq (fb q h),UE q (.inr hq) (fun h=>(hd q hq h).elim)⟩
   ·rw[if_neg e] at hq
    obtain ⟨h1,h2,h3,h4⟩:=hG j q hq;exact ⟨hF' q (.inl h1),h2,h3,UE q (.inl h1) (fun _=>h4)⟩
  ·by_cases e:i=kids.length
   ·rw[if_pos e] at hi
    rw[if_neg (fun h=>xS (e.trans h.symm))] at hj;exact hd q hi (hG j q hj).1
   ·rw[if_neg e] at hi
    by_cases e':j=kids.length
    ·rw[if_pos e'] at hj
     exact hd q hj (hG i q hi).1
    ·rw[if_neg e'] at hj
     exact J2 i j q xS hi hj
theorem gj.leaf {w:World} {F:Nat→Prop} {ks vs:List Int} {a b:Value} (ha:w.ownsRow 0 3 1 a ks.length (bB ks)) (hb:w.ownsRow 0 3 1 b vs.length (bB vs)) (ba:∀x∈ks,aP x) (bb:∀x∈vs,aP x) (hab:eD a b) (fa:∀g,a.ownBlock=some g→F g) (fb:∀g,b.ownBlock=some g→F g):gj w F (.mk ks vs []) a b (.slice none 0 0):=
 .mk F ks vs [] a b (.slice none 0 0) [] (fun _ _=>False) (fun _=>(.bool false,.bool false,.bool false)) ha hb (World.ownsRow_nil _ _ _ _) ba bb fa fb (fun g h=>by simp[Value.ownBlock] at h) hab (fun j hj=>by simp at hj) (fun j t ht=>by simp at ht) (fun _ _ h=>h.elim) (fun _ _ _ _ h=>h.elim)
end Go.Proofs.YtbigkioechkngaaGreat
