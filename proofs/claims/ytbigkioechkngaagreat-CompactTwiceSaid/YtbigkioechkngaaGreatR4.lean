/- The proof, part 5. -/
import Derived.Test.YtbigkioechkngaaGreatR2
import Derived.Maps.OwnIn
import Derived.Test.YtbigkioechkngaaGreatR3
import Derived.Sort.LoopGhostIn
import Derived.Laws.OwnMore
import Derived.Deep.RegionLaw
import Derived.Test.YtbigkioechkngaaGreatProg
import Derived.Outline
set_option maxRecDepth 100000
set_option maxHeartbeats 8000000
namespace Go.Proofs.YtbigkioechkngaaGreat
open Go.RowKit Tryz
variable {n:Int}{u:List Bool}{vals:List Int}{a k:Nat}{vc vk vp:Value}{w:World}
abbrev fq:=Int×ByteArray
structure aO where
 kept:List ByteArray
 cache:List fq
 ah:Int
 keep:List Bool
 dead:Bool
def kX (s:ByteArray):List Value:=[.string s]
def ly (p:fq):List Value:=[.int .i64 p.1,.string p.2]
theorem jd (s:ByteArray):(kX s).length=1:=rfl
theorem l6 (p:fq):(ly p).length=2:=rfl
theorem uy (s:ByteArray):∀u∈kX s,u.oneCell'=true:=by intro u hu;unfold kX at hu;simp only[List.mem_singleton] at hu;subst hu;rfl
theorem uz (p:fq):∀u∈ly p,u.oneCell'=true:=by intro u hu;unfold ly at hu;simp only[List.mem_cons,List.not_mem_nil,or_false] at hu;rcases hu with rfl|rfl <;> rfl
structure Xo (d:aO):Prop where
 kept:∀s∈d.kept,s.size≤maxLen
 cache:∀p∈d.cache,aQ p.1∧p.2.size≤maxLen
 ah:aQ d.ah
structure bN (w:World) (d:aO) (vk vc vp:Value):Prop where
 kept:dw w vk 1 kX d.kept
 cache:dw w vc 2 ly d.cache
 keep:dy w vp d.keep
 bd:Xo d
theorem bN.keeps {w':World} {d:aO} (h:bN w d vk vc vp) (hk:dI w w'):bN w' d vk vc vp:=⟨h.kept.keep hk,h.cache.keep hk,h.keep.keep hk,h.bd⟩
theorem bN.below {w':World} {d:aO} (h:bN w d vk vc vp) (hb:Bw w w'):bN w' d vk vc vp:=h.keeps (af hb)
def ew (d:aO) (vk vc vp:Value):Value:=.agg #[vk,vc,.int .i64 d.ah,vp,.bool d.dead]
def eH (W:World) (b:Nat) (vk vc vf vp vd:Value):Prop:=W.cell? ⟨b,0,none⟩=some vk∧W.cell? ⟨b,1,none⟩=some vc∧W.cell? ⟨b,2,none⟩=some vf∧W.cell? ⟨b,3,none⟩=some vp∧W.cell? ⟨b,4,none⟩=some vd
theorem eH.below {W W':World} {b:Nat} {vf vd:Value} (h:eH W b vk vc vf vp vd) (hb:Bw W W'):eH W' b vk vc vf vp vd:=⟨ae hb h.1,ae hb h.2.1,ae hb h.2.2.1,ae hb h.2.2.2.1,ae hb h.2.2.2.2⟩
theorem eH.grown {W W':World} {b:Nat} {vf vd:Value} {row:Option Nat} (h:eH W b vk vc vf vp vd) (hg:W.grownBy W' row) (hne:some b≠row):eH W' b vk vc vf vp vd:=⟨hg.cell h.1 hne,hg.cell h.2.1 hne,hg.cell h.2.2.1 hne,hg.cell h.2.2.2.1 hne,hg.cell h.2.2.2.2 hne⟩
theorem eH.new (W:World) (vk vc vf vp vd:Value) (T:TypeId):eH (W.alloc (.cells #[vk,vc,vf,vp,vd] T)) W.heap.size vk vc vf vp vd:=⟨by simp,by simp,by simp,by simp,by simp⟩
theorem dw.slice {α:Type} {v:Value} {f:α→List Value} {l:List α} (h:dw w v k f l):∃p c,v=.slice p l.length c∧l.length≤c∧c≤maxLen:=by obtain ⟨p,c,h1,h2,h3,_⟩:=h;exact ⟨p,c,h1,h2,h3⟩
theorem dy.slice {v:Value} {l:List Bool} (h:dy w v l):∃p c,v=.slice p l.length c∧l.length≤c∧c≤maxLen:=by obtain ⟨p,c,h1,h2,h3,_⟩:=h;exact ⟨p,c,h1,h2,h3⟩
theorem dw.cells {α:Type} {p:Option Addr} {n c:Nat} {f:α→List Value} {l:List α} (h:dw w (.slice p n c) k f l):∀i x,l[i]?=some x→∃g o,p=some ⟨g,o,none⟩∧∀j u,(f x)[j]?=some u→w.cell? ⟨g,o+i*k+j,none⟩=some u:=by obtain ⟨p',c',h1,h2,h3,_,h5⟩:=h;injection h1 with e1 _ _;subst e1;exact h5
theorem dy.cells {p:Option Addr} {n c:Nat} {l:List Bool} (h:dy w (.slice p n c) l):∀i x,l[i]?=some x→∃g o,p=some ⟨g,o,none⟩∧w.cell? ⟨g,o+i,none⟩=some (.bool x):=by obtain ⟨p',c',h1,h2,h3,_,h5⟩:=h;injection h1 with e1 _ _;subst e1;exact h5
def Xp (n:Nat) (p:fq):Bool:=decide (0≤p.1∧p.1<n∧p.2.size=32)
def fZ (d:aO):Bool:=decide (1≤d.kept.length∧d.kept.length≤5000∧d.cache.length≤20000 ∧ -1≤d.ah)&&d.kept.all (fun s=>s.size==32)&&d.cache.all (Xp d.kept.length)
theorem gu (d:aO):fZ d=true↔(1≤d.kept.length∧d.kept.length≤5000∧d.cache.length≤20000 ∧ -1≤d.ah)∧(∀s∈d.kept,s.size=32)∧∀p∈d.cache,0≤p.1∧p.1<d.kept.length∧p.2.size=32:=by unfold fZ Xp;simp only[Bool.and_eq_true,decide_eq_true_eq,List.all_eq_true,beq_iff_eq];exact ⟨fun h=>⟨h.1.1,h.1.2,h.2⟩,fun h=>⟨⟨h.1,h.2.1⟩,h.2.2⟩⟩
def eh:ByteArray:=⟨#[]⟩
def iT:ByteArray:=⟨(List.replicate 32 (0:UInt8)).toArray⟩
def iU:aO:=⟨[],[],0,[],false⟩
def kE (l:List fq) (pos:Int) (s:ByteArray):ByteArray:=l.foldl (fun s p=>if p.1=pos then p.2 else s) s
def gw (d:aO) (pos:Int):ByteArray×Int:=
 if fZ d=false then (eh,1) else if d.dead=true then (eh,90) else if pos<0∨(d.kept.length:Int)≤pos then (eh,1) else (kE d.cache pos ((d.kept[pos.toNat]?).getD eh),0)
def cK:List fq→List Bool→List ByteArray→List ByteArray
 |p::c,b::l,k=>cK c l (if b=true then k.set p.1.toNat p.2 else k)
 |_,_,k=>k
def yz (d:aO) (keep:List Bool):aO:=if fZ d=false then iU else ⟨cK d.cache keep d.kept,[],-1,[],true⟩
def cF (d:aO) (pos:Int) (s:ByteArray):aO×Int:=
 if fZ d=false then (iU,1) else if d.dead=true then (d,90) else if pos<0∨(d.kept.length:Int)≤pos∨¬s.size=32∨20000≤d.cache.length then (d,1)
 else if d.ah=0 then (yz {d with cache:=d.cache++[(pos,s)]} d.keep,90)
 else if 0<d.ah then ({d with cache:=d.cache++[(pos,s)],ah:=d.ah-1},0)
 else ({d with cache:=d.cache++[(pos,s)]},0)
def J2 (n:Int):aO×Int:=if n<1∨5000<n then (iU,1) else (⟨List.replicate n.toNat iT,[],-1,[],false⟩,0)
def jS (u:List Bool) (a:Nat) (n:Int):Bool:=decide (1≤n∧n≤(u.length:Int)-a)&&((u.drop a).take n.toNat).all (fun b=>!b)
def iV (u:List Bool) (n:Int):Nat→Nat→Int
 |0,_ => -1
 |f+1,a=>if jS u a n=true then a else iV u n f (a+1)
def gy (u:List Bool) (n:Int):Int:=iV u n u.length 0
theorem tA (h:¬(1≤n∧n≤(u.length:Int)-a)):jS u a n=false:=by unfold jS;rw[decide_eq_false h,Bool.false_and]
theorem CB (hk:(k:Int)<n) (h:u[a+k]?=some true):jS u a n=false:=by
 unfold jS;rw[Bool.and_eq_false_iff];refine .inr ?_;rw[← Bool.not_eq_true,List.all_eq_true];intro hall;have:=hall true (by
  rw[List.mem_iff_getElem?];refine ⟨k,?_⟩;rw[List.getElem?_take_of_lt (by omega),List.getElem?_drop];exact h)
 simp at this
theorem Gn (h:1≤n∧n≤(u.length:Int)-a) (hall:∀k:Nat,(k:Int)<n→u[a+k]?=some false):jS u a n=true:=by
 unfold jS;rw[decide_eq_true h,Bool.true_and,List.all_eq_true];intro x hx;obtain ⟨k,hk⟩:=List.mem_iff_getElem?.1 hx;have hlt:k<n.toNat:=by have:=(List.getElem?_eq_some_iff.1 hk).1;rw[List.length_take] at this;omega
 rw[List.getElem?_take_of_lt hlt,List.getElem?_drop,hall k (by omega)] at hk;injection hk with hk;rw[← hk];rfl
theorem Rg (u:List Bool) (a:Nat) (n:Int) (v1:Value) (w:World) (h:dy w v1 u) (ha:a≤u.length) (hn:aQ n):Calls prog 174 #[v1,.int .i64 a,.int .i64 n] w fun e w'=>e=.returned (.bool (jS u a n))∧Bw w w':=by
 obtain ⟨p,c,rfl,a1,a2⟩:=h.slice;have HC:=aa h.cells;clear h;obtain ⟨r,hr⟩:=aG (jS u a n);have HR:=aa hr;obtain ⟨L,hL⟩:=aG u.length;rw[hL] at a1 ha;rw[hr,hL];have HL:=aa hL;clear hr hL;have lL:=fG (n:=L) a2;unfold aQ at hn;have c0:¬(a:Int)<0:=by omega
 have c1:¬(L:Int)<(a:Int):=by omega
 have d0:decide ((a:Int)<0)=false:=by simp
 have d1:decide ((L:Int)<(a:Int))=false:=by simp;omega
 clear a1 a2;by_cases hb:1≤n∧n≤(L:Int)-a
 case neg=>
  have HE:=aa (HR.symm.trans (tA (by rw[HL.o];exact hb)));have hc:n<1∨(¬n<1∧(L:Int)-(a:Int)<n):=by omega
  clear hb;go_enter func174,ntmps174;rcases hc with g1|⟨g1,g2⟩
  ·have d2:decide (n<1)=true:=by simp;omega
   go_wp2_with fail;go_ret;exact ⟨aN HE.symm,aH⟩
  ·have d2:decide (n<1)=false:=by simp;omega
   have d3:decide ((L:Int)-(a:Int)<n)=true:=by simp;omega
   go_wp2_with fail;go_ret;exact ⟨aN HE.symm,aH⟩
 obtain ⟨N,rfl⟩:∃N:Nat,n=N:=⟨n.toNat,by omega⟩
 have g1:¬(N:Int)<1:=by omega
 have g2:¬(L:Int)-(a:Int)<(N:Int):=by omega
 have d2:decide ((N:Int)<1)=false:=by simp;omega
 have d3:decide ((L:Int)-(a:Int)<(N:Int))=false:=by simp;omega
 have jl:=aa hb;clear hb;go_enter func174,ntmps174;go_upto_region 3 with fail;clear c1 d1 g1 g2 d2 d3;go_wp2_with fail;go_loopw [7] (fun i wr=>∃k:Nat,k≤N∧i=.int .i64 k∧(∀j:Nat,j<k→u[a+j]?=some false)∧Bw w wr) (fun i _=>N-(intOf i).toNat)
 case atStart=>exact ⟨0,dO,rfl,fun j hj=>by omega,aH⟩
 case round=>
  obtain ⟨k,hk,rfl,hall,hb⟩:=hrel;have ed:=aa hall;have HB:=aa hb;clear hall hb;by_cases hlt:k<N
  case neg=>
   obtain rfl:k=N:=by omega
   have HE:=aa (HR.symm.trans (Gn (by rw[HL.o];exact jl) (fun j hj=>ed j (by omega))));go_wp2_with fail;go_ret;exact ⟨aN HE.symm,HB⟩
  have fN:(k:Int)<(N:Int):=by omega
  have hkd:decide ((k:Int)<(N:Int))=true:=by simp;omega
  have pM:a+k<L:=by have:=jl.o;omega
  have aqs:(a:Int)+(k:Int)<(L:Int):=by omega
  have aqt:(0:Int)≤(a:Int)+(k:Int):=by omega
  have hw:wrap64 ((a:Int)+(k:Int))=(a:Int)+(k:Int):=by unfold wrap64;omega
  have aqu:((a:Int)+(k:Int)).toNat=a+k:=by omega
  obtain ⟨s,hs⟩:=fx (l:=u) (k:=a+k) (by rw[HL.o];exact pM);obtain ⟨g,o,rfl,x1⟩:=HC.o (a+k) s hs;have r1:=ae HB x1;have HS:=aa hs;clear hs x1;cases s with
  |false=>
   have zL:=aa (show ∀(j:Nat),j<k+1→u[a+j]?=some false from fun j hj=>by
    by_cases e:j=k
    ·rw[e,HS.o]
    ·exact ed j (by omega))
   go_wp2_with fail;go_roundw
   case rel=>exact ⟨k+1,by omega,by go_num,zL.o,HB.o⟩
   case measure=>simp[intOf];omega
  |true=>have HE:=aa (HR.symm.trans (CB (by omega) HS));go_wp2_with fail;go_ret;exact ⟨aN HE.symm,HB⟩
theorem Gp {f:Nat} (hk:k<f):iV u n (f-k) k=if jS u k n=true then (k:Int) else iV u n (f-(k+1)) (k+1):=by rw[show f-k=(f-(k+1))+1 by omega];rfl
theorem Nu (u:List Bool) (n:Int) (v1:Value) (w:World) (h:dy w v1 u) (hn:aQ n):Calls prog 141 #[v1,.int .i64 n] w fun e w'=>e=.returned (.int .i64 (gy u n))∧Bw w w':=by
 have HF:=aa (fun (k:Nat) (hk:k≤u.length) (W:World) (hb:Bw w W)=>Rg u k n v1 W (h.keep (af hb)) hk hn);obtain ⟨p,c,rfl,a1,a2⟩:=h.slice;clear h;obtain ⟨r,hr⟩:=aG (gy u n);unfold gy at hr;obtain ⟨L,hL⟩:=aG u.length;rw[hL] at a1 hr HF;rw[show gy u n=r by unfold gy;rw[hL];exact hr,hL];have HR:=aa hr;clear hr hL;have lL:=fG (n:=L) a2;unfold aQ at hn;clear a1 a2;go_enter func141,ntmps141;go_wp2_with fail;go_loopw [5] (fun i wr=>∃k:Nat,k≤L∧i=.int .i64 k∧iV u n (L-k) k=r∧Bw w wr) (fun i _=>L-(intOf i).toNat)
 case atStart=>exact ⟨0,dO,rfl,HR,aH⟩
 case round=>
  obtain ⟨k,hk,rfl,hall,hb⟩:=hrel;have ed:=aa hall;have HB:=aa hb;clear hall hb;by_cases hlt:k<L
  case neg=>
   obtain rfl:k=L:=by omega
   have HE:=aa (show r = -1 by have:=ed.o;rw[Nat.sub_self] at this;exact this.symm);go_wp2_with fail;go_ret;exact ⟨by rw[HE.o];rfl,HB⟩
  have fN:(k:Int)<(L:Int):=by omega
  have JH:=HF.o k hk wr HB.o;obtain ⟨b,yA⟩:=aG (jS u k n);rw[yA] at JH;have acO:=aa JH;have fX:=aa ((Gp hlt).symm.trans ed);rw[yA] at fX;clear JH yA;cases b with
  |true=>have HE:=aa (show r=k by have:=fX.o;rw[if_pos rfl] at this;exact this.symm);go_wp2_with (go_at_call 174;(refine acO.o.mono ?_);rintro e w5 ⟨rfl,aR⟩;have bp:=bh HB aR;clear aR);go_ret;exact ⟨by rw[HE.o];rfl,bp⟩
  |false=>
   have HE:=aa (show iV u n (L-(k+1)) (k+1)=r by have:=fX.o;rw[if_neg (by simp)] at this;exact this);go_wp2_with (go_at_call 174;(refine acO.o.mono ?_);rintro e w5 ⟨rfl,aR⟩;have bp:=bh HB aR;clear aR);go_roundw
   case rel=>exact ⟨k+1,by omega,by go_num,HE.o,bp.o⟩
   case measure=>simp[intOf];omega
def pD (l:List ay):Prop:=l.Pairwise fun a b=>a.1<b.1
theorem Gq:∀ {a b:List ay},pD a→pD b→(∀p,p∈a↔p∈b)→a=b
 |[],[],_,_,_=>rfl
 |[],y::b,_,_,h=>by have:=(h y).2 (by simp);simp at this
 |x::a,[],_,_,h=>by have:=(h x).1 (by simp);simp at this
 |x::a,y::b,ha,hb,h=>by
  unfold pD at ha hb;rw[List.pairwise_cons] at ha hb;have BM:x=y:=by
   have h1:=(h x).1 (by simp);have h2:=(h y).2 (by simp);rw[List.mem_cons] at h1 h2;rcases h1 with h1|h1
   ·exact h1
   rcases h2 with h2|h2
   ·exact h2.symm
   have h3:=hb.1 x h1;have h4:=ha.1 y h2;omega
  subst BM;have hab:a=b:=Gq (a:=a) (b:=b) ha.2 hb.2 fun p=>by
   constructor
   ·intro hp
    have h5:=(h p).1 (by simp[hp]);rw[List.mem_cons] at h5;rcases h5 with rfl|h5
    ·have:=ha.1 p hp;omega
    ·exact h5
   ·intro hp
    have h5:=(h p).2 (by simp[hp]);rw[List.mem_cons] at h5;rcases h5 with rfl|h5
    ·have:=hb.1 p hp;omega
    ·exact h5
  rw[hab]
theorem vK:∀(l:List ay) (k v:Int),fB l k v true=l.filter fun x=>x.1 != k
 |[],k,v=>by simp[fB]
 |x::l,k,v=>by rw[nT,if_neg (by simp),Bool.true_or,vK l k v];by_cases h:x.1=k <;> simp[h]
theorem zM:∀(l:List ay) (k v:Int),pD l→∀p,p∈fB l k v false↔p=(k,v)∨(p∈l∧p.1≠k)
 |[],k,v,_,p=>by simp[fB]
 |x::l,k,v,h,p=>by
  unfold pD at h;rw[List.pairwise_cons] at h;rw[nT];by_cases hk:k≤x.1
  ·rw[if_pos ⟨rfl,hk⟩,decide_eq_true hk,Bool.or_true,vK]
   by_cases hx:x.1=k
   ·rw[if_pos hx]
    simp only[List.append_nil,List.mem_append,List.not_mem_nil,or_false,List.mem_filter,List.mem_cons,bne_iff_ne,ne_eq];constructor
    ·rintro (h1|h1)
     ·exact .inl h1
     ·exact .inr ⟨.inr h1.1,h1.2⟩
    ·rintro (h1|⟨h1|h1,h2⟩)
     ·exact .inl h1
     ·subst h1;exact absurd hx h2
     ·exact .inr ⟨h1,h2⟩
   ·rw[if_neg hx]
    simp only[List.mem_append,List.not_mem_nil,or_false,List.mem_filter,List.mem_cons,bne_iff_ne,ne_eq];constructor
    ·rintro ((h1|h1)|h1)
     ·exact .inl h1
     ·subst h1;exact .inr ⟨.inl rfl,hx⟩
     ·exact .inr ⟨.inr h1.1,h1.2⟩
    ·rintro (h1|⟨h1|h1,h2⟩)
     ·exact .inl (.inl h1)
     ·exact .inl (.inr h1)
     ·exact .inr ⟨h1,h2⟩
  ·rw[if_neg (by intro e;exact hk e.2),if_neg (by omega),show (false || decide (k≤x.1))=false by rw[Bool.false_or];exact decide_eq_false hk]
   simp only[List.nil_append,List.mem_append,List.not_mem_nil,or_false,List.mem_cons,zM l k v h.2 p];constructor
   ·rintro (h1|h1|h1)
    ·subst h1;exact .inr ⟨.inl rfl,by omega⟩
    ·exact .inl h1
    ·exact .inr ⟨.inr h1.1,h1.2⟩
   ·rintro (h1|⟨h1|h1,h2⟩)
    ·exact .inr (.inl h1)
    ·exact .inl h1
    ·exact .inr (.inr ⟨h1,h2⟩)
theorem CC:∀(l:List ay) (k v:Int),pD l→pD (fB l k v false)
 |[],k,v,_=>by simp[fB,pD]
 |x::l,k,v,h=>by
  have h0:=h;unfold pD at h;rw[List.pairwise_cons] at h;rw[nT];by_cases hk:k≤x.1
  ·rw[if_pos ⟨rfl,hk⟩,decide_eq_true hk,Bool.or_true,vK]
   have hl:l.filter (fun y=>y.1 != k)=l:=List.filter_eq_self.2 fun y hy=>by have:=h.1 y hy;rw[bne_iff_ne];omega
   rw[hl];by_cases hx:x.1=k
   ·rw[if_pos hx]
    show List.Pairwise (fun a b:ay=>a.1<b.1) ((k,v)::l);rw[List.pairwise_cons];exact ⟨fun y hy=>by have:=h.1 y hy;simp only;omega,h.2⟩
   ·rw[if_neg hx]
    show List.Pairwise (fun a b:ay=>a.1<b.1) ((k,v)::x::l);rw[List.pairwise_cons];refine ⟨fun y hy=>?_,h0⟩;rw[List.mem_cons] at hy;rcases hy with rfl|hy
    ·simp only;omega
    ·have:=h.1 y hy;simp only;omega
  ·rw[if_neg (by intro e;exact hk e.2),if_neg (by omega),show (false || decide (k≤x.1))=false by rw[Bool.false_or];exact decide_eq_false hk]
   show List.Pairwise (fun a b:ay=>a.1<b.1) (x::fB l k v false);rw[List.pairwise_cons];refine ⟨fun y hy=>?_,CC l k v h.2⟩;rcases (zM l k v h.2 y).1 hy with rfl|hy
   ·simp only;omega
   ·exact h.1 y hy.1
def jC (out:List ay) (vals:List Int):Prop:=pD out∧∀p,p∈out↔p.1∈vals∧p.2=(vals.count p.1:Nat)
theorem jC.nil:jC [] []:=⟨List.Pairwise.nil,fun p=>by simp⟩
theorem jC.get {out:List ay} (h:jC out vals) (k:Int):(kd out k).1=(vals.count k:Nat):=by
 unfold kd;cases hf:out.find? (fun x=>x.1==k) with
 |none=>
  have h1:=List.find?_eq_none.1 hf;have hk:k∉vals:=fun hk=>by have:=h1 (k,(vals.count k:Nat)) ((h.2 _).2 ⟨hk,rfl⟩);simp at this
  rw[List.count_eq_zero_of_not_mem hk];rfl
 |some x=>
  have h1:=List.find?_some hf;have h2:=(h.2 x).1 (List.mem_of_find?_eq_some hf);have h3:x.1=k:=by simpa using h1
  rw[← h3];exact h2.2
theorem jC.put {out:List ay} (h:jC out vals) (k:Int):jC (fB out k ((kd out k).1+1) false) (vals++[k]):=by
 refine ⟨CC _ _ _ h.1,fun p=>?_⟩;rw[zM _ _ _ h.1,h.get k,h.2];simp only[List.mem_append,List.mem_singleton,List.count_append];obtain ⟨a,b⟩:=p;simp only[Prod.mk.injEq];by_cases hk:a=k
 ·subst hk
  simp only[true_and,List.count_singleton_self,or_true,ne_eq,not_true,and_false,or_false];push_cast;rfl
 ·have hc:List.count a [k]=0:=List.count_eq_zero_of_not_mem (by simpa using hk)
  simp only[hk,false_and,false_or,ne_eq,not_false_eq_true,and_true,or_false,hc,Nat.add_zero]
theorem jC.one {a b:List ay} (ha:jC a vals) (hb:jC b vals):a=b:=Gq ha.1 hb.1 fun p=>by rw[ha.2,hb.2]
def gX (l:List ay):List Int:=l.map Prod.snd
def cY (l:List dx):List Int:=(l.map fun d=>gX (aA d.map)).flatten
theorem xy:∀(l:List ay) {out:List ay} {vals:List Int},jC out vals→jC (dX out l) (vals++gX l)
 |[],out,vals,h=>by simp only[dX,gX,List.map_nil,List.append_nil];exact h
 |p::l,out,vals,h=>by have:=xy l (h.put p.2);simp only[dX];rw[show vals++gX (p::l)=vals++[p.2]++gX l by simp[gX]];exact this
theorem zN:∀(l:List dx) {out:List ay} {vals:List Int},jC out vals→jC (eU out l) (vals++cY l)
 |[],out,vals,h=>by simp only[eU,cY,List.map_nil,List.flatten_nil,List.append_nil];exact h
 |d::l,out,vals,h=>by have:=zN l (xy (aA d.map) h);simp only[eU];rw[show vals++cY (d::l)=vals++gX (aA d.map)++cY l by simp[cY]];exact this
theorem lz {l:List dx} (h:dP l=true):jC (aX l) (cY l):=by
 unfold aX;rw[if_pos h];have:=zN l jC.nil
 simpa using this
theorem J3 {l:List dx} {s:dx} (h:l[k]?=some s):cY (l.take (k+1))=cY (l.take k)++gX (aA s.map):=by obtain ⟨hk,rfl⟩:=List.getElem?_eq_some_iff.1 h;unfold cY;rw[List.take_succ_eq_append_getElem hk,List.map_append,List.flatten_append];simp
theorem Ef (h:rX n=true):0≤n∧n<10000000:=by unfold rX at h;simp only[Bool.and_eq_true,decide_eq_true_eq] at h;obtain ⟨h0,h1⟩:=h;rw[Cp h0,bL] at h1;simp only at h1;omega
theorem zO {d:dx} (h:cE d=true):∀v∈gX (aA d.map),0≤v∧v<10000000:=by intro v hv;unfold gX at hv;rw[List.mem_map] at hv;obtain ⟨x,hx,rfl⟩:=hv;unfold cE at h;simp only[Bool.and_eq_true,List.all_eq_true] at h;have:=h.2 x hx;unfold dG at this;simp only[Bool.and_eq_true] at this;exact Ef this.1
end Go.Proofs.YtbigkioechkngaaGreat
namespace Go.Proofs.YtbigkioechkngaaGreat
open Go.RowKit Go.Shelf
open Tryz
variable {k:Int}{V vals:List Int}{pre:List ay}{left:Lit→Bool}{B:Nat}{W W':World}
def BQ (W:World) (b:Nat) (vals:List Int):Prop:=
 ∃D:DataW Unit,W.ownsMap prog 3 (plainElem prog 3) b vals.length D∧Maps.IsMap D ∧
  (∀k,aQ k→D.atKey (.int .i64 k) (.lit (.int .i64 0))=.lit (.int .i64 (vals.count k:Nat)))∧∀k,aQ k→Maps.has D (.int .i64 k)=decide (k∈vals)
theorem Eg (h:aQ k):(Lit.int .i64 k).wf=true:=by unfold aQ at h;simp[Lit.wf,IntKind.min,IntKind.max,IntKind.signed,IntKind.bits];omega
theorem uA (k:Int):Go.WideAt.IsKeyLit (.int .i64 k):=by trivial
theorem BQ.new (W:World):BQ (W.alloc (.map #[] 0)) W.heap.size []:=
 ⟨.map [],World.ownsMap_made W prog 3 _,Maps.isMap_empty,fun k _=>by simp[DataW.atKey],fun k _=>by simp[Maps.has]⟩
theorem BQ.kept {b:Nat} {row:Option Nat} (h:BQ W b vals) (hg:W.grownBy W' row) (hne:some b≠row):BQ W' b vals:=by obtain ⟨D,h1,h2⟩:=h;exact ⟨D,h1.kept hg hne,h2⟩
theorem Rh {D:DataW Unit} (h2:Maps.IsMap D) (h3:∀k,aQ k→D.atKey (.int .i64 k) (.lit (.int .i64 0))=.lit (.int .i64 (vals.count k:Nat))) (h4:∀k,aQ k→Maps.has D (.int .i64 k)=decide (k∈vals)) {b:Nat}
 (hown:W.ownsMap prog 3 (plainElem prog 3) b (vals.length+1) (D.put (.int .i64 k) (.lit (.int .i64 ((vals.count k:Nat)+1))))):BQ W b (vals++[k]):=by
 refine ⟨_,by rw[List.length_append];exact hown,h2.put _ _,fun q hq=>?_,fun q hq=>?_⟩
 ·by_cases e:q=k
  ·subst e
   rw[Maps.atKey_put_same h2 (uA q),List.count_append,List.count_singleton_self];push_cast;rfl
  ·rw[Maps.atKey_put_other (fun h=>e (by injection h)),h3 q hq,List.count_append,List.count_eq_zero_of_not_mem (show q∉[k] by simpa using e),Nat.add_zero]
 ·by_cases e:q=k
  ·subst e
   rw[Maps.has_put_same h2 (uA q)];simp
  ·rw[Maps.has_put_other (fun h=>e (by injection h)),h4 q hq]
   simp[e]
def Marks (B:Nat):List Deferred→World→Prop
 |[],_=>True
 |d::ds,W=>(∃D,B≤D∧d={target:=.collected D,args := #[]}∧W.heap[D]?=some (.deferred (some []))∧∀d'∈ds,d'.target≠.collected D)∧Marks B ds W
theorem Marks.step :∀ {ds:List Deferred},Marks B ds W→(∀D,B≤D→W.heap[D]?=some (.deferred (some []))→W'.heap[D]?=some (.deferred (some [])))→Marks B ds W'
 |[],_,_=>trivial
 |_::_,⟨⟨D,h1,h2,h3,h4⟩,h5⟩,hk=>⟨⟨D,h1,h2,hk D h1 h3,h4⟩,h5.step hk⟩
theorem Marks.below {ds:List Deferred} (h:Marks B ds W) (hb:Bw W W'):Marks B ds W':=
 h.step fun D _ hD=>(hb.block D (Array.getElem?_eq_some_iff.1 hD).1).trans hD
theorem Marks.fresh {D:Nat} (hD:W.heap.size≤D):∀ {ds:List Deferred},Marks B ds W→∀d'∈ds,d'.target≠.collected D
 |[],_=>fun d' h=>by simp at h
 |_::_,⟨⟨D',h1,h2,h3,h4⟩,h5⟩=>fun d' hd=>by
  rw[List.mem_cons] at hd;rcases hd with rfl|hd
  ·subst h2
   intro e;simp only[Target.collected.injEq] at e;have:=(Array.getElem?_eq_some_iff.1 h3).1;omega
  ·exact h5.fresh hD d' hd
def rF (B:Nat) (W W':World):Prop:=Below B W W'∧∀(k:Nat) (o:Obj),W.heap[k]?=some o→o.isCells=true→W'.heap[k]?=some o
theorem rF.refl (B:Nat) (W:World):rF B W W:=⟨aH,fun _ _ h _=>h⟩
theorem kM {B n:Nat} {P:Program} {fn:Func} {tmps:Array Value} {R:Ending→World→Prop}:∀ {ds:List Deferred} {W:World},Marks B ds W→(∀W',rF B W W'→∃v,(results fn tmps).run P W'=.ok v W'∧R (.returned v) W') →
 LeavesInM Fence.wide n P fn tmps R ds .returning W
 |[],W,_,h=>h W (rF.refl B W)
 |d::ds,W,⟨⟨D,h1,h2,h3,h4⟩,h5⟩,h=>by
  subst h2;refine ⟨by simp,.inl ⟨D,_,rfl,run_takeDeferred h3,?_⟩⟩;refine kM (B:=B) (marks_put h4 h5) fun W' hs=>?_;refine h W' ⟨?_,fun k o hk hc=>?_⟩
  ·refine Below.trans ?_ hs.1
   have hg:W.grownBy (W.putObj D (.deferred none)) (some D):=grownBy_putObj' _ _ _;exact ⟨hg.os,hg.tape,hg.output,hg.size,fun k hk=>World.putObj_heap_other (by omega)⟩
  ·refine hs.2 k o ((World.putObj_heap_other (fun e=>?_)).trans hk) hc
   rw[e,h3] at hk;cases hk;cases hc
where
 marks_put {B:Nat} {W:World} {D:Nat} {o:Obj}:∀ {ds:List Deferred},(∀d'∈ds,d'.target≠.collected D)→Marks B ds W→Marks B ds (W.putObj D o)
 |[],_,_=>trivial
 |d::ds,hn,⟨⟨D',h1,h2,h3,h4⟩,h5⟩=>⟨⟨D',h1,h2,(World.putObj_heap_other (fun e=>by
  refine hn d (by simp) ?_;rw[h2,e])).trans h3,h4⟩,marks_put (fun d' hd=>hn d' (by simp[hd])) h5⟩
structure L8 (W0:World) (B:Nat) (vals:List Int) (M:Nat→Prop) (pre:List ay) (W:World):Prop where
 map:BQ W B (vals++gX pre)
 m1:¬M B
 old:∀k,k<W0.heap.size→k≠B→W.heap[k]?=W0.heap[k]?
 below:Below B W0 W
theorem L8.kept {W0:World} {M M':Nat→Prop} {A C:World} {row:Option Nat} (h:L8 W0 B vals M pre A) (hB:B<W0.heap.size) (hg:A.grownBy C row) (hr:∀r,row=some r→W0.heap.size≤r) (hn:New M M' A C):L8 W0 B vals M' pre C:=by
 have hne:∀k,k<W0.heap.size→some k≠row:=fun k hk e=>by have:=hr k e.symm;omega
 have hsz:=h.below.size;refine ⟨h.map.kept hg (hne B hB),fun hm=>?_,fun k hk hk2=>(hg.block k (by omega) (hne k hk)).trans (h.old k hk hk2),jz h.below (by omega) hg (fun b hb=>hne b (by omega))⟩;rcases hn _ hm with hm|hm
 ·exact h.m1 hm
 ·omega
def BR (x:ay):List Value:=[.int .i64 (x.1%1000000000000),.int .i64 x.2]
def Ri (x y:ay):Int:=x.1%1000000000000-y.1%1000000000000
theorem aiO:Go.Sort.SWO (Go.Proofs.ltOf Ri):=by refine ⟨fun x=>?_,fun x y z h1 h2=>?_,fun x y z h1 h2=>?_⟩ <;> unfold Go.Proofs.ltOf Ri at * <;> simp only[decide_eq_true_eq,decide_eq_false_iff_not] at * <;> omega
theorem Gr (a b c e:Int) (ha:0≤a∧a<1000000000000) (hc:0≤c∧c<1000000000000) (w:World):Calls prog 124 #[.agg #[.int .i64 a,.int .i64 b],.agg #[.int .i64 c,.int .i64 e]] w fun en w'=>
 en=.returned (.int .i64 (a-c))∧w'=(w.alloc (.cells #[.int .i64 a,.int .i64 b] 82)).alloc (.cells #[.int .i64 c,.int .i64 e] 82):=by
 have hw:wrap64 (a-c)=a-c:=by unfold wrap64;omega
 go_enter func124,ntmps124;go_wp2_with fail;go_ret;exact ⟨rfl,rfl⟩
theorem Rj (w:World) (a b:Obj):(w.alloc a).alloc b=Go.Sort.grow w #[a,b]:=by rw[Go.Sort.alloc_eq_grow,Go.Sort.alloc_eq_grow,Go.Sort.grow_grow];rfl
theorem yB (w:World) (g n:Nat) (d:Array ay) (os:Array Obj):w.grownBy (Go.Proofs.sortWorldK BR 2 w g 0 n d os) (some g):=by refine ⟨rfl,rfl,rfl,Go.Proofs.size_sortWorldK_c BR 2 w g 0 n d os,fun k hk hne=>?_⟩;unfold Go.Proofs.sortWorldK;rw[Go.Sort.heap_grow_old _ _ (by rw[Go.Sort.size_putRowK];exact hk)];unfold Go.Sort.putRowK Go.Sort.putRow Go.Sort.mapBlock;show (w.heap.modify g _)[k]?=_;rw[Array.getElem?_modify];rw[if_neg (fun e=>hne (by rw[e]))]
theorem Rk (g cap B:Nat) (l:List ay) (w:World) (hown:w.ownsRow B 82 2 (.slice (some ⟨g,0,none⟩) l.length cap) l.length (bJ l).flatten) (hb:∀x∈l,0≤x.1∧x.1<1000000000000) (hl:l.length≤1000000) :
 Calls prog 123 #[.slice (some ⟨g,0,none⟩) l.length cap,.func (.func 124) #[] #[]] w fun e w'=>e=.returned (.tuple #[]) ∧
  ∃l':List ay,l'.Perm l∧l'.Pairwise (fun a b=>a.1≤b.1)∧dW w' (.slice (some ⟨g,0,none⟩) l'.length cap) l'∧w.grownBy w' (some g):=by
 have hg:=(hown.lt g rfl).2;obtain ⟨cur,hblk,_,hc1,hc2,_⟩:=bl hown;have hH:Go.Sort.HoldsK BR 2 w g 0 l.toArray:=by
  intro j hj;rw[Go.Sort.size_flatK] at hj;have hj':j<l.length*2:=by simpa using hj
  have hl2:=vz l;refine ⟨?_,Nq hblk _⟩;rw[Nat.zero_add,bG hown j (by omega),Go.Sort.get_flatK _ _ _ _ hj];have hi:j/2<l.length:=by omega
  have e1:l.toArray[j/2]! = l[j/2]:=by rw[getElem!_pos _ _ (by simpa using hi)];simp
  rw[e1];obtain ⟨p1,p2⟩:=sV l (j/2) _ (List.getElem?_eq_getElem hi);obtain ⟨m1,m2⟩:=hb l[j/2] (List.getElem_mem hi);unfold BR;rw[Int.emod_eq_of_lt m1 m2];rcases Nat.mod_two_eq_zero_or_one j with h|h
  ·have e2:j/2*2=j:=by omega
   rw[h];rw[e2,List.getElem?_eq_getElem (by omega)] at p1
   simpa using p1
  ·have e2:j/2*2+1=j:=by omega
   rw[h];rw[e2,List.getElem?_eq_getElem (by omega)] at p2
   simpa using p2
 have aiP:Go.Proofs.CmpLays prog 124 #[] BR 2 Ri g 0 l.toArray.size w:=by intro m os dk _ x y;have hx:=Int.emod_nonneg x.1 (show (1000000000000:Int)≠0 by decide);have hx2:=Int.emod_lt_of_pos x.1 (show (0:Int)<1000000000000 by decide);have hy:=Int.emod_nonneg y.1 (show (1000000000000:Int)≠0 by decide);have Nw:=Int.emod_lt_of_pos y.1 (show (0:Int)<1000000000000 by decide);refine (Gr _ x.2 _ y.2 ⟨hx,hx2⟩ ⟨hy,Nw⟩ _).mono ?_;rintro e w' ⟨rfl,rfl⟩;exact ⟨rfl,0,_,Rj _ _ _⟩
 have hsz:l.toArray.size=l.length:=by simp
 have Xr:=Go.Proofs.AnyQ.slices_SortFunc acP 2 isAgg82 sizeOf82 BR (fun _=>rfl) (fun x v hv=>by unfold BR at hv;simp only[List.mem_cons,List.not_mem_nil,or_false] at hv;rcases hv with rfl|rfl <;> rfl)
  Ri aiO 124 #[] g 0 cap l.toArray w (enters_of func124 (by kernel_rfl) rfl) aiP hH hg (by rw[hsz];omega)
 rw[hsz] at Xr;refine Xr.mono ?_;rintro e w' ⟨rfl,d',n,os,hp,hs,rfl⟩;obtain ⟨UR,_,Xi⟩:=hp;have acQ:d'.size=l.length:=by rw[UR];simp
 have Gs:d'.toList.Perm l:=by
  have e1:d'.extract 0 l.length=d':=by rw[← acQ];simp
  have e2:l.toArray.extract 0 l.length=l.toArray:=by simp
  rw[e1,e2] at Xi
  simpa using Xi
 have tB:∀x∈d'.toList,0≤x.1∧x.1<1000000000000:=fun x hx=>hb x (Gs.mem_iff.1 hx);have hat:∀i (hi:i<d'.size),d'[i]! = d'[i]:=fun i hi=>getElem!_pos d' i hi;refine ⟨rfl,d'.toList,Gs,?_,⟨some ⟨g,0,none⟩,cap,rfl,?_,hc2,fun i x hx=>⟨g,0,rfl,?_⟩⟩,yB w g n d' os⟩
 ·rw[List.pairwise_iff_getElem]
  intro i j hi hj xz;simp only[Array.length_toList] at hi hj;have h1:=hs i j dO xz (by omega);rw[hat i hi,hat j hj] at h1;unfold Go.Proofs.ltOf Ri at h1;simp only[decide_eq_false_iff_not] at h1;have m1:=tB d'[i] (by simp);have m2:=tB d'[j] (by simp);rw[Int.emod_eq_of_lt m1.1 m1.2,Int.emod_eq_of_lt m2.1 m2.2] at h1;simp only[Array.getElem_toList];omega
 ·simp only[Array.length_toList];omega
 ·have hh:=Go.Proofs.holdsK_sortWorldK_c BR 2 w g 0 l.toArray d' n os hH hg (by rw[acQ] ;simp)
  obtain ⟨hi,FP⟩:=List.getElem?_eq_some_iff.1 hx;have hi':i<d'.size:=by simpa using hi
  have aiQ:d'[i]=x:=by rw[← FP];simp
  have h0:=(hh.cell (i:=i) (c:=0) hi' (by omega)).1;have h1:=(hh.cell (i:=i) (c:=1) hi' (by omega)).1;rw[hat i hi',aiQ] at h0 h1;have m:=tB x (List.mem_of_getElem? hx);have he:BR x=[.int .i64 x.1,.int .i64 x.2]:=by unfold BR;rw[Int.emod_eq_of_lt m.1 m.2]
  rw[he] at h0 h1;exact ⟨by simpa using h0,by simpa using h1⟩
structure og (V:List Int) (left:Lit→Bool) (pre:List ay):Prop where
 nd:(pre.map Prod.fst).Nodup
 ok:∀p∈pre,p.1∈V∧p.2=(V.count p.1:Nat)
 rest:∀k,aQ k→(left (.int .i64 k)=true↔k∈V∧k∉pre.map Prod.fst)
theorem og.nil (h:∀k,aQ k→left (.int .i64 k)=decide (k∈V)):og V left []:=by refine ⟨by simp,fun p hp=>by simp at hp,fun k hk=>?_⟩;rw[h k hk];simp
theorem og.next (h:og V left pre) {x c:Int} (hx:aQ x) (hl:left (.int .i64 x)=true) (hc:c=(V.count x:Nat)):og V (fun z=>left z&&!z.sameKey (.int .i64 x)) (pre++[(x,c)]):=by
 obtain ⟨hxv,hxp⟩:=(h.rest x hx).1 hl;refine ⟨?_,fun p hp=>?_,fun k hk=>?_⟩
 ·rw[List.map_append,List.nodup_append]
  refine ⟨h.nd,by simp,fun a ha b hb=>?_⟩;simp only[List.map_cons,List.map_nil,List.mem_singleton] at hb;subst hb;rintro rfl;exact hxp ha
 ·rw[List.mem_append,List.mem_singleton] at hp
  rcases hp with hp|rfl
  ·exact h.ok p hp
  ·exact ⟨hxv,hc⟩
 ·have hs:(Lit.int .i64 k).sameKey (.int .i64 x)=decide (k=x):=by
   rw[Bool.eq_iff_iff,Go.WideAt.sameKey_iff (uA x)];simp
  simp only[hs,Bool.and_eq_true,h.rest k hk,Bool.not_eq_true',decide_eq_false_iff_not,List.map_append,List.map_cons,List.map_nil,List.mem_append,List.mem_singleton,not_or];constructor
  ·rintro ⟨⟨a,b⟩,c⟩;exact ⟨a,b,c⟩
  ·rintro ⟨a,b,c⟩;exact ⟨⟨a,b⟩,c⟩
theorem og.bd (h:og V left pre) (hV:∀k∈V,0≤k∧k<10000000):∀x∈pre,0≤x.1∧x.1<1000000000000:=fun x hx=>by have:=hV x.1 (h.ok x hx).1;omega
theorem og.tally {l':List ay} (h:og V left pre) (hd:∀kl,left kl=false) (hV:∀k∈V,0≤k∧k<10000000) (hp:l'.Perm pre) (hs:l'.Pairwise (fun a b=>a.1≤b.1)):jC l' V:=by
 have rG:(l'.map Prod.fst).Nodup:=(hp.map Prod.fst).nodup_iff.2 h.nd;have hne:l'.Pairwise (fun a b=>a.1≠b.1):=by unfold List.Nodup at rG;rw[List.pairwise_map] at rG;exact rG
 refine ⟨(hs.and hne).imp fun {a b} h=>by omega,fun p=>?_⟩;rw[hp.mem_iff];constructor
 ·exact h.ok p
 ·rintro ⟨h1,h2⟩
  have hk:p.1∈pre.map Prod.fst:=by
   by_cases hk:p.1∈pre.map Prod.fst
   ·exact hk
   ·have:=(h.rest p.1 (by have:=hV p.1 h1;unfold aQ;omega)).2 ⟨h1,hk⟩
    rw[hd] at this;cases this
  rw[List.mem_map] at hk;obtain ⟨q,hq,he⟩:=hk;have:=(h.ok q hq).2;rw[he,← h2] at this;obtain ⟨a,b⟩:=p;obtain ⟨c,d⟩:=q;simp only at he this;subst he;subst this;exact hq
theorem Gt:∀ {a b:List Int},a.Nodup→(∀x∈a,x∈b)→a.length≤b.length
 |[],_,_,_=>Nat.zero_le _
 |x::a,b,hn,h=>by rw[List.nodup_cons] at hn;have hx:=h x (by simp);have h1:=Gt (a:=a) (b:=b.erase x) hn.2 fun y hy=>(List.mem_erase_of_ne (fun e=>hn.1 (by rw[← e];exact hy))).2 (h y (by simp[hy]));have h2:=List.length_erase_of_mem hx;have h3:=List.length_pos_of_mem hx;rw[List.length_cons];omega
theorem og.len (h:og V left pre):pre.length≤V.length:=by
 have h1:(pre.map Prod.fst).length≤V.length:=by refine Gt h.nd fun k hk=>?_;rw[List.mem_map] at hk;obtain ⟨p,hp,rfl⟩:=hk;exact (h.ok p hp).1
 rwa [List.length_map] at h1
theorem zP {l:List dx} (h:dP l=true):∀k∈cY l,0≤k∧k<10000000:=by intro k hk;unfold cY at hk;rw[List.mem_flatten] at hk;obtain ⟨q,hq,hk⟩:=hk;rw[List.mem_map] at hq;obtain ⟨d,hd,rfl⟩:=hq;exact zO ((dr.1 h).1 d hd) k hk
attribute [local go_sem] Oper.semAt_some
def zQ (w:World) (x:List dx) (e:Ending) (w':World):Prop:=∃v',e=.returned v'∧dW w' v' (aX x)∧(∀k,v'.ownBlock=some k→w.heap.size≤k)∧Bw w w'
theorem Gu {x:List dx} {k:Nat} {n:Nat} (h:(cY x).length≤n):(cY (x.take k)).length≤n:=by
 have e:(cY x).length=(cY (x.take k)).length+(cY (x.drop k)).length:=by unfold cY;rw[← List.length_append,← List.flatten_append,← List.map_append,List.take_append_drop]
 omega
theorem oP {x:List dx} (h:bM x) (hk:x.length≤64):(cY x).length≤600000:=by
 have key:∀l:List dx,(∀d∈l,(aA d.map).length≤2000)→(cY l).length≤l.length*2000:=fun l=>by
  induction l with
  |nil=>intro _;simp[cY]
  |cons a l ih=>
   intro hx;have h1:=hx a (by simp);have h2:=ih (fun d hd=>hx d (by simp[hd]));have e:cY (a::l)=gX (aA a.map)++cY l:=by simp[cY]
   rw[e,List.length_append,List.length_cons];unfold gX;rw[List.length_map];omega
 have:=key x h;omega
def Yx (w1:World) (x:List dx) (k:Nat) (ds:List Deferred) (wr:World):Prop:=
 BQ wr w1.heap.size (cY (x.take k))∧Boxed wr (w1.heap.size+1) 157 (.map (some w1.heap.size))∧Marks w1.heap.size ds wr∧Bw w1 wr
def Rl (w1:World) (q:Nat) (V:List Int) (ds:List Deferred) (cnt:Nat) (v:Value) (r:Nat) (W:World):Prop:=
 ∃(D:DataW Unit) (left:Lit→Bool) (pre:List ay),W.ranges prog 3 (plainElem prog 3) w1.heap.size r V.length D left cnt∧(W.ownsRow q 82 2 v pre.length (bJ pre).flatten∧v≠.slice none 0 0)∧og V left pre ∧
  (∀k,aQ k→D.atKey (.int .i64 k) (.lit (.int .i64 0))=.lit (.int .i64 (V.count k:Nat)))∧Marks w1.heap.size ds W∧Bw w1 W
theorem acS (h:(Lit.int .i64 k).wf=true):aQ k:=by simp[Lit.wf,IntKind.min,IntKind.max,IntKind.signed,IntKind.bits] at h;unfold aQ;omega
theorem fU (h:rF B W W'):dI W W':=fun a v hv=>by
 have hlt:=World.block_lt_of_cell? _ _ hv;obtain ⟨o,ho⟩:∃o,W.heap[a.block]?=some o:=⟨_,Array.getElem?_eq_getElem hlt⟩
 have hc:o.isCells=true:=by unfold World.cell? at hv;rw[ho] at hv;cases o <;> first|rfl|simp at hv
 exact (World.cell?_of_block ((h.2 _ o ho hc).trans ho.symm)).trans hv
def Yy (p:Option Addr) (N cp b k:Nat) (ds:List Deferred) (a:Act):Prop:=
 ∃u5 u7 u18 u19 u20 u21 u22 u23 u24 u25 u26 u27 u28 u29 u30 u31 u32:Value,a={tmps := #[.slice p N cp,uu,.slice none 0 0,.pointer (some ⟨b+1,0,none⟩),uu,u5,uu,u7,uu,uu,uu,.slice p N cp,.bool true,.bool false,.map (some b),.slice p N cp,.int .i64 N,.int .i64 (k:Nat),u18,u19,u20,u21,u22,u23,u24,u25,u26,u27,u28,u29,u30,u31,u32,uu,uu,uu,uu,uu,uu,uu,uu,uu,uu,uu,uu,uu,uu,uu,uu,uu,uu,uu],defers:=ds}
theorem uB (x:List dx) (v1:Value) (w:World) (h1:eQ w v1 x) (l1:zF x) (l2:dP x=true→(cY x).length≤600000):Calls prog 74 #[v1] w (zQ w x):=by
 have xg:=aa l1;have nP:=aa l2;have Qd:=aa h1;have Q1 := @run_makeMap prog;obtain ⟨p,cp,rfl,a1,a2,ha⟩:=h1;have HA:=aa ha;obtain ⟨N,hN⟩:=aG x.length;rw[hN] at a1 Qd;rw[hN];have hlc:=fG (n:=N) a2;have HN:=aa hN;clear ha hN a1 a2 l1 l2;rw[← callsIn_wide (n:=6)];refine callsIn_of_wp_marks func74 rfl trivial ?_ rfl;simp only[ntmps74,List.size_toArray,List.length_cons,List.length_nil,Nat.reduceAdd,Nat.reduceSub,Array.replicate_succ,Array.replicate_zero,List.push_toArray,List.append_toArray,List.nil_append,List.cons_append];gi_wp2_with fail;refine ⟨trivial,?_⟩;refine (callsIn_wide.2 (Cx x _ _ Qd xg)).mono ?_;rintro e w1 ⟨rfl,hb⟩;have aY:=aa hb;clear hb;cases hm:dP x with
 |false=>have HF:=aa (show aX x=[] by unfold aX;rw[hm,if_neg (by simp)]);clear hm;gi_wp2_with fail;refine ⟨_,results_tmp rfl _ _ _,_,rfl,?_,fun k hk=>(by cases hk),aY⟩;rw[HF.o];exact ⟨none,0,rfl,aT,by unfold maxLen;omega,fun i x hx=>by simp at hx⟩
 |true=>
  have HM:=aa hm;have aiV:N≤64:=by have:=(dr.1 hm).2.2;have:=HN.o;omega
  clear hm;gi_wp2_with fail;obtain ⟨W1,hW1⟩:∃W,(w1.alloc (.map #[] 0)).alloc (.cells #[.map (some w1.heap.size)] 157)=W:=⟨_,rfl⟩
  have hc0:Yx w1 x 0 [] W1:=by
   rw[← hW1];refine ⟨?_,?_,trivial,(ar).alloc (by simp) _⟩
   ·rw[List.take_zero];exact (BQ.new w1).kept (World.grownBy_alloc _ _ none) (by simp)
   ·have:=Boxed.new (w1.alloc (.map #[] 0)) 157 (.map (some w1.heap.size))
    rwa [World.size_alloc] at this
  rw[hW1];clear hW1;refine wpIn_loop (fun a wr=>∃(k:Nat) (ds:List Deferred),Yy p N cp w1.heap.size k ds a∧k≤N∧Yx w1 x k ds wr) (fun a _=>N-(intOf (a.tmps.getD 17 uu)).toNat) ⟨0,[],⟨_,_,_,_,_,_,_,_,_,_,_,_,_,_,_,_,_,rfl⟩,dO,hc0⟩ ?_;clear hc0;rintro a wr ⟨k,ds,⟨u5,u7,u18,u19,u20,u21,u22,u23,u24,u25,u26,u27,u28,u29,u30,u31,u32,rfl⟩,hk,hmap,fI,Xs,hb⟩;have Vg:=aa hmap;have sB:=aa fI;have HMS:=aa Xs;have HB:=aa hb;clear hmap Xs hb;by_cases hlt:k<N
  case neg=>
   obtain rfl:k=N:=by omega
   have acT:decide ((k:Int)<(k:Int))=false:=(by simp);have hV:cY (x.take k)=cY x:=by rw[List.take_of_length_le (by rw[HN.o];exact aT)]
   have Qh:=aa (show (cY (x.take k)).length≤600000 from Gu (nP HM));rw[hV] at Vg Qh;obtain ⟨V,hVV⟩:=aG (cY x);rw[hVV] at Vg Qh;have HVV:=aa hVV;obtain ⟨D,d1,d2,d3,d4⟩:=Vg.o;have HD:=aa (And.intro d2 (And.intro d3 d4));have HD1:=aa d1;obtain ⟨sz,hsz⟩:∃n,Maps.size D=n:=⟨_,rfl⟩
   have aqw:sz≤600000:=by have h1:=d1.size_le;have:=Qh.o;omega
   have cb:=fI.cell;obtain ⟨i0,hi,hz0,hz1,hz2⟩:=info_parts FJ;obtain ⟨wm,jJ,Xt,hg0⟩:=run_make_own (P:=prog) wr wr.heap.size 76 82 i0 (.agg #[.int .i64 0,.int .i64 0]) 2 underlying76 hi hz0 hz1 .i64 .i64 sz (by rw[hz2];omega) (by unfold maxLen;omega) aT;have acU:(Instr.makeSlice 76 (.int .i64 0) (.int .i64 sz)).run prog wr=.ok (.slice (some ⟨wr.heap.size,0,none⟩) 0 sz) wm:=jJ;have cb2:=hg0.cell cb (by simp);have HOW:=aa Xt;have Fa:=aa hg0;have CD:=aa (d1.kept hg0 (by simp));have mN:=aa hsz;have Rm:=CD.o;clear hV hVV d2 d3 d4 jJ Xt hg0 hi hz0 hz1 hz2 fI Q1;gi_wp2_with (first|(gi_at_len;refine wpListIn_len_own _ rfl _ _ rfl 3 3 underlying157 (plainElem prog 3) w1.heap.size V.length D rfl d1 ?_)|(gi_at_range;refine wpListIn_range_own _ rfl _ _ rfl 3 3 (Maps.int_keyed underlying3) underlying157 (plainElem prog 3) w1.heap.size V.length D rfl Rm ?_));intro w3 hrg hg3 hs3;have kJ:=aa (show w.heap.size≤w1.heap.size∧w1.heap.size+1<wr.heap.size∧wr.heap.size<wm.heap.size∧wm.heap.size<w3.heap.size from ⟨aY.size,sB.lt,(HOW.lt _ rfl).2,by omega⟩);have uC:=aa (show Rl w1 wr.heap.size V ds sz (.slice (some ⟨wr.heap.size,0,none⟩) 0 sz) wm.heap.size w3 from by
    refine ⟨D,Maps.has D,[],hrg,⟨HOW.kept hg3 (.inr (by simp[Value.ownBlock])),by simp⟩,og.nil (HD.2.2),HD.2.1,?_,?_⟩
    ·exact HMS.step fun D TU zR=>(hg3.block D (by have:=(Array.getElem?_eq_some_iff.1 zR).1;have:=kJ.o;omega) (by simp)).trans ((Fa.block D (Array.getElem?_eq_some_iff.1 zR).1 (by simp)).trans zR)
    ·exact HB.trans (jz (jz aH (by have:=kJ.o;omega) Fa (by simp)) (by have:=kJ.o;omega) hg3 (by simp)))
   clear hrg hg3 hs3 Rm d1 acU cb cb2 HOW HD Fa CD HD1 HMS HB;gi_wp2_with fail;obtain ⟨q,hq⟩:=aG wr.heap.size;obtain ⟨r,hr⟩:=aG wm.heap.size;rw[hq,hr] at uC ⊢;rw[hr] at kJ;rw[hq] at kJ;clear hq hr;gi_loopg [8] sz (fun g v wr2=>Rl w1 q V ds g v r wr2)
   case atStart=>exact uC.o
   case round=>
    obtain ⟨D,left,pre,hrg,⟨hown,hnil⟩,hrl,hat,Xs,hb⟩:=hrel;obtain ⟨g5,c5,rfl⟩:∃g5 c5,u8=.slice (some ⟨g5,0,none⟩) pre.length c5:=by
     rcases aJ hown with ⟨h,_,_⟩|h
     ·exact absurd h hnil
     ·exact h
    have HOW:=aa hown;have zS:=aa hrl;have QV:=aa hat;have HMS:=aa Xs;have HB:=aa hb;have HRG:=aa hrg;have nU:=aa (show pre.length≤600000 by have h1:=hrl.len;have:=Qh.o;omega);obtain ⟨np,Vh⟩:∃n,pre.length=n:=⟨_,rfl⟩
    rw[Vh] at HOW nU ⊢;have Vi:=aa Vh;clear hown hnil hrl hat Xs hb Vh uC;gi_wp2_with (gi_at_next;refine wpListIn_next_ranges_ii _ rfl _ rfl 3 3 .i64 .i64 (Maps.int_keyed underlying3) underlying3 underlying3 w1.heap.size r V.length D left _ rfl hrg ?_ ?_)
    ·intro hc0 hl0
     have HL0:=aa hl0;clear hc0 hl0 hrg;gi_wp2_with fail;have iL:=zS.bd (by rw[← HVV.o];exact zP HM);have hso:=Rk g5 c5 q pre wr (by rw[Vi.o];exact HOW) iL (by rw[Vi.o];have:=nU.o;omega);rw[Vi.o] at hso;refine ⟨trivial,?_⟩;refine (callsIn_wide.2 hso).mono ?_;rintro e w5 ⟨rfl,l',hp,hs,acW,hg5⟩;have hl':l'=aX x:=jC.one (zS.tally HL0 (by rw[← HVV.o];exact zP HM) hp hs) (by rw[← HVV.o];exact lz HM);have WW:l'.length=np:=hp.length_eq.trans Vi.o;have yP:=aa (show dW w5 (.slice (some ⟨g5,0,none⟩) np c5) (aX x) by rw[← hl',← WW];exact acW);have hgq:q≤g5:=(HOW.lt g5 rfl).1;have bp:=aa (show Bw w1 w5 from jz HB HB.size hg5 (fun b hb e=>by injection e with e;have:=kJ.o;omega));obtain ⟨aiZ,CE,_⟩:=bl HOW.o;have Qk:=aa (show Marks w1.heap.size ds w5 from HMS.step fun D2 _ zR=>(hg5.block D2 (Array.getElem?_eq_some_iff.1 zR).1 (fun e=>by injection e with e;subst e;rw[CE] at zR;cases zR)).trans zR);have HGQ:=aa (show w.heap.size≤g5 by have:=kJ.o;have:=aY.size;omega);clear iL hso hp hs acW hl' WW hg5 CE;gi_wp2_with fail;refine kM Qk fun W' hs=>⟨.slice (some ⟨g5,0,none⟩) np c5,by simp[results,results74,go_sem],_,rfl,yP.o.keep (fU hs),fun k hk=>(by injection hk with hk;rw[← hk];exact HGQ.o),?_⟩
     exact mV aY (bp.trans hs.1) aY.size
    ·intro y c w4 acY Yz hwc hly acZ ac0 ac1 hg4 Xu hen
     have BL:=acS Yz;have hcc:c=(V.count y:Nat):=by have:=(acZ _).symm.trans (QV y BL);injection this with this;injection this
     have hrn:=zS.next BL hly hcc;obtain ⟨aiZ,CE,_⟩:=bl HOW.o;have hgq:q≤g5∧g5<wr.heap.size:=HOW.lt g5 rfl;have YA:r≠g5:=fun e=>by obtain ⟨_,_,_,_,_,_,_,_,_,h5,_⟩:=HRG.o;rw[e,CE] at h5;cases h5
     have ac2:=HOW.kept hg4 (.inr (by simp[Value.ownBlock];exact fun e=>YA e.symm));obtain ⟨g6,c6,w6,ra,ro,rg6,_⟩:=uw w4 q np _ pre y c ac2 (by have:=nU.o;omega) (by have:=kJ.o;omega);have ac3:=(ac0.alloc (.cells #[.int .i64 y,.int .i64 c] 82)).kept rg6 (by simp[Value.ownBlock];have:=kJ.o;omega) (by simp[Value.ownBlock];exact YA);have hr4:∀D2:Nat,wr.heap[D2]?=some (.deferred (some []))→w6.heap[D2]?=some (.deferred (some [])):=fun D2 zR=>by
      have h1:w4.heap[D2]?=some (.deferred (some [])):=(hg4.block D2 (Array.getElem?_eq_some_iff.1 zR).1 (fun e=>by
       injection e with e;obtain ⟨_,_,_,_,_,_,_,_,_,h5,_⟩:=HRG.o;rw[← e,zR] at h5;cases h5)).trans zR
      have h2:=alloc_old (o:=.cells #[.int .i64 y,.int .i64 c] 82) h1;exact (rg6.block D2 (Array.getElem?_eq_some_iff.1 h2).1 (fun e=>by
       have e:D2=g5:=(by simpa [Value.ownBlock] using e);subst e;rw[CE] at zR;cases zR)).trans h2
     have rH:=aa (show Rl w1 q V ds acY (.slice (some ⟨g6,0,none⟩) (np+1) c6) r w6 from
      ⟨D,_,pre++[(y,c)],ac3,⟨by rw[List.length_append,Vi.o];exact ro,by simp⟩,hrn,QV,HMS.step fun D2 _ zR=>hr4 D2 zR,
       jz (jz (jz HB HB.size hg4 (fun b hb e=>by injection e with e;have:=kJ.o;omega)) (by have:=kJ.o;have:=hg4.size;omega) (World.grownBy_alloc _ _ none) (by simp)) (by have:=kJ.o;have:=hg4.size;simp;omega) rg6 (fun b hb e=>by
        have e:b=g5:=(by simpa [Value.ownBlock] using e);have:=kJ.o;omega)⟩)
     have Gv:=aa ra;have Vj:=aa ac1;clear hrg Yz hwc hly acZ ac0 hg4 Xu BL hcc hrn CE hgq YA ac2 ra ro rg6 ac3 hr4 ac1;gi_wp2_with (gi_at_builtin;refine lh _ rfl _ _ _ rfl _ _ rfl rfl _ _ Gv.o ?_);gi_roundg acY
     case measure=>exact Vj.o
     case rel=>exact rH.o
  case pos=>
   have fN:(k:Int)<(N:Int):=(by omega);have Ql:wrap64 ((k:Int)+1)=(k:Int)+1:=by unfold wrap64;omega
   obtain ⟨s,hs⟩:=fx (l:=x) (k:=k) (by rw[HN.o];exact hlt);obtain ⟨j1,j2,g,o,a,b,c,rfl,e0,e1,e2,e3,e4,e5⟩:=HA.o k s hs;obtain ⟨pu,nu,cu,pv,nv,cv,pw,nw,cw,rfl,rfl,rfl⟩:=aZ e5;have r0:=ae (mV aY HB aY.size) e0;have r1:=ae (mV aY HB aY.size) e1;have r2:=ae (mV aY HB aY.size) e2;have r3:=ae (mV aY HB aY.size) e3;have r4:=ae (mV aY HB aY.size) e4;have HS:=aa hs;have HNA:=aa e5;have HSR:=aa ((dr.1 HM).1 s (List.mem_of_getElem? hs));have HST:=aa (xg.o s (List.mem_of_getElem? hs));obtain ⟨S,hS⟩:=aG s.size;obtain ⟨I,hI⟩:=aG s.id;have zq:=aa hS;rw[hS] at r1;rw[hI] at r0;obtain ⟨W2,hW2⟩:∃W,wr.alloc (.cells #[.int .i64 I,.int .i64 S,.slice pu nu cu,.slice pv nv cv,.slice pw nw cw] 75)=W:=⟨_,rfl⟩
   have hb2:Bw wr W2:=by rw[← hW2];exact ar
   have b1:W2.heap[wr.heap.size]?=some (.cells #[.int .i64 I,.int .i64 S,.slice pu nu cu,.slice pv nv cv,.slice pw nw cw] 75 (0,0)):=by rw[← hW2];exact World.alloc_heap_new _ _
   obtain ⟨x0,x1,x2,x3,x4⟩:=Np b1;have bS:=aa hb2;have ai0:=aa (Array.getElem?_eq_some_iff.1 b1).1;clear hs hS hI e0 e1 e2 e3 e4 e5 j1 j2 b1 hb2 fI;gi_wp2_with fail;clear hW2;refine ⟨trivial,?_⟩;refine (callsIn_wide.2 (zC _ _ _ 0 S _)).mono ?_;rintro e w' ⟨rfl,rfl⟩;gi_wp2_with fail;obtain ⟨W0,hW0⟩:∃W,((W2.alloc (.cells #[.slice pu nu cu,.slice pv nv cv,.slice pw nw cw] 73)).alloc (.cells #[.int .i64 0] 3)).alloc (.cells #[.int .i64 S] 3)=W:=⟨_,rfl⟩
   have hb3:=U8 W2 (.slice pu nu cu) (.slice pv nv cv) (.slice pw nw cw) (.int .i64 0) (.int .i64 S);have hb0:Bw W2 W0:=by rw[← hW0];exact ((ar).alloc (by simp) _).alloc (by simp;omega) _
   rw[hW0] at hb3 ⊢;clear hW0;have mU:=bh bS hb0;have JY:=aa (show w.heap.size≤w1.heap.size∧w1.heap.size+1<wr.heap.size∧wr.heap.size<W2.heap.size∧W2.heap.size≤W0.heap.size from ⟨aY.size,sB.lt,ai0,hb0.size⟩);have hseq:=zD 5 W2.heap.size (fun b=>b<w.heap.size) s.map 0 S _ _ _ W0 (HNA.keep (fun q v hv=>aq.2 ⟨World.block_lt_of_cell? _ _ hv,ae (mV (mV aY HB aY.size) mU (by have:=JY.o;omega)) hv⟩)) (by have:=HST.o;unfold oN at this;omega) hb3.1 hb3.2.1 hb3.2.2;have rC:=aa (show jQ s.map 0 S=aA s.map from J0 HSR zq);have Qh:=aa (show (cY (x.take k)).length≤600000 from Gu (nP HM));have HVB:=aa (zO HSR);have Xv:=aa (show BQ W0 w1.heap.size (cY (x.take k)) from Vg.kept (aS mU none) (by simp));clear hb0 hb3 x0 x1 x2 x3 x4 r0 r1 r2 r3 r4;rw[rC.o] at hseq;refine ij (n:=6) (gf:=158) (lb := #[.pointer (some ⟨W2.heap.size,0,none⟩),.pointer (some ⟨W2.heap.size+1,0,none⟩),.pointer (some ⟨W2.heap.size+1+1,0,none⟩)]) (by omega) rfl (enters_of func158 (by kernel_rfl) rfl) hseq ?hM (fun _=>rfl) (L8 W0 w1.heap.size (cY (x.take k)))
    (fun _ _ _=>False) ?i1 ?i2 ?x1 ?x2 ?start
    (fun _ y a' _=>a'={tmps := #[.slice (some ⟨g,o,none⟩) N cp,uu,.slice none 0 0,.pointer (some ⟨w1.heap.size+1,0,none⟩),uu,.pointer (some ⟨wr.heap.size,0,none⟩),uu,.int .i64 y.2,uu,uu,uu,.slice (some ⟨g,o,none⟩) N cp,.bool true,.bool false,.map (some w1.heap.size),.slice (some ⟨g,o,none⟩) N cp,.int .i64 (N:Nat),.int .i64 (k:Nat),.bool true,.pointer (some ⟨g,o+k*5,none⟩),.agg #[.int .i64 I,.int .i64 S,.slice pu nu cu,.slice pv nv cv,.slice pw nw cw],.pointer (some ⟨wr.heap.size,2,none⟩),.agg #[.slice pu nu cu,.slice pv nv cv,.slice pw nw cw],.pointer (some ⟨wr.heap.size,1,none⟩),.int .i64 S,.func (.func 158) #[] #[.pointer (some ⟨W2.heap.size,0,none⟩),.pointer (some ⟨W2.heap.size+1,0,none⟩),.pointer (some ⟨W2.heap.size+1+1,0,none⟩)],.int .i64 y.1,.int .i64 y.2,u28,u29,u30,u31,u32,uu,uu,uu,uu,uu,uu,uu,uu,uu,uu,uu,uu,uu,uu,uu,uu,uu,uu,uu],defers:=[]}) ?ax ?assign ?body ?done ?stop
   case hM=>intro b hb;have:=JY.o;omega
   case i1=>exact fun M M' s A B h hg hn=>h.kept (by have:=JY.o;omega) hg (fun r e=>by cases e) hn
   case i2=>exact fun M s A B r o h hg hr ho hc=>h.kept (by have:=JY.o;omega) hg (fun r' e=>by cases e;exact hr) (fun b hb=>.inl hb)
   case x1=>exact fun _ _ _ _ h _=>h
   case x2=>exact fun _ _ _ _ _ _ h _ _ _ _=>h
   case start=>refine ⟨by have:=Xv.o;simpa [gX] using this,fun h=>by have:=JY.o;omega,fun _ _ _=>rfl,aH⟩
   case ax=>exact fun M x a' A B r o h hg hr ho hc=>h
   case assign=>
    intro l M pre x W K hi hK
    dsimp only[Vb]
    gi_wp2;exact hK _ _ ⟨rfl,rfl,rfl,aT,fun _ _ _=>rfl⟩ rfl
   case body=>
    rintro l M pre y a' W hi rfl hlen;have HI:=aa hi;have hpl:pre.length≤600000:=by have h1:=HST.o;have h2:=hlen.length_le;rw[List.length_append] at h2;unfold oN at h1;omega
    have fI:Boxed W (w1.heap.size+1) 157 (.map (some w1.heap.size)):=(hi.old _ (by have:=JY.o;omega) (by omega)).trans ((mU.block _ (by have:=JY.o;omega)).trans sB);have cb:=fI.cell;have hy:0≤y.2∧y.2<10000000:=HVB.o y.2 (by unfold gX;exact List.mem_map_of_mem (hlen.subset (by simp)));have BL:aQ y.2:=by unfold aQ;omega
    obtain ⟨D,d1,d2,d3,d4⟩:=hi.map;have D2:=aa (And.intro d2 (And.intro d3 d4));obtain ⟨nv0,hnv⟩:∃n,(cY (x.take k)++gX pre).length=n:=⟨_,rfl⟩
    have ac5:nv0≤1300000:=by have:=Qh.o;rw[List.length_append] at hnv;unfold gX at hnv;rw[List.length_map] at hnv;omega
    rw[hnv] at d1;have hmx:nv0<maxLen:=by unfold maxLen;omega
    have HNV:=aa hnv;have ai1:=aa ac5;have hkey:=Maps.keyOf_int_mk underlying3 (Eg BL);have HYB:=aa BL;clear hi hseq d2 d3 d4 hnv ac5 fI hy BL;gi_wp2_with (gi_at_lookup;refine wpListIn_lookup_own_int _ rfl _ _ 157 rfl 3 3 .i64 (Maps.int_keyed underlying3) underlying157 underlying3 (zeroValue3 _) w1.heap.size nv0 _ rfl d1 _ _ rfl hkey ?_);intro c hat hwc;have hcc:c=((cY (x.take k)++gX pre).count y.2:Nat):=by have:=(D2.2.1 _ HYB).symm.trans hat;injection this with this;injection this with _ this;exact this.symm
    have qC:(cY (x.take k)++gX pre).count y.2≤nv0:=by rw[← HNV.o];exact List.count_le_length
    have HCW:=aa (show wrap64 (c+1)=c+1 by have:=ai1.o;unfold wrap64;omega);have L9:=aa hcc;clear hat hwc hcc qC;gi_wp2_with (gi_at_mapUpdate;refine wpListIn_mapUpdate_own _ rfl _ _ _ 157 rfl 3 3 (Maps.int_keyed underlying3) underlying157 _ w1.heap.size nv0 _ rfl d1 hmx _ _ _ rfl rfl hkey _ [] (plainElem_int underlying3 (wrap64_wf _)) ?_);intro w9 Ma Vk;rw[HCW.o,L9.o] at Ma;rw[← HNV.o] at Ma;have Vl:=aa (Rh D2.1 D2.2.1 D2.2.2 Ma);have YB:=aa Vk;clear Ma Vk d1;gi_wp2_with fail;refine ⟨KeepsFrom.of_grownBy YB (fun j e=>by cases e;have:=JY.o;omega),fp.grown YB (fun r e=>by cases e;exact HI.m1),?_,HI.m1,fun k2 hk2 hne=>?_,?_⟩
    ·have:=Vl.o
     rw[List.append_assoc] at this;unfold gX at this ⊢;rw[List.map_append];exact this
    ·exact (YB.block k2 (by have:=HI.below.size;omega) (fun e=>hne (by injection e))).trans (HI.old k2 hk2 hne)
    ·exact jz HI.below (by have:=HI.below.size;have:=JY.o;omega) YB (fun b hb e=>by injection e with e;omega)
   case done=>
    rintro Dd M W hD hi hK;have Vl:=aa hi.map;have ke:=aa hi.below;have Vm:=aa hi.old;have HK9:=aa hK;clear hi hK hseq;have HM0:=aa (HMS.below mU);have M8:=aa hD;have Jo:=aa (show Yx w1 x (k+1) ({target:=.collected Dd,args := #[]}::ds) W from by
     refine ⟨by rw[J3 HS.o];exact Vl,(Vm _ (by have:=JY.o;omega) (by omega)).trans ((mU.block _ (by have:=JY.o;omega)).trans sB),⟨⟨Dd,by have:=JY.o;have:=M8.o;omega,rfl,HK9,Marks.fresh M8 HM0⟩,HM0.step fun D TU zR=>?_⟩,?_⟩
     ·refine (Vm D (Array.getElem?_eq_some_iff.1 zR).1 (fun e=>?_)).trans zR
      obtain ⟨_,⟨es,clock,h5,_⟩,_⟩:=Xv.o;rw[e,h5] at zR;cases zR
     ·exact (HB.trans (gS mU (by have:=JY.o;omega))).trans ke)
    clear hD Vl ke Vm HK9 HM0 M8;gi_wp2_with fail;refine ⟨⟨k+1,_,⟨_,_,_,_,_,_,_,_,_,_,_,_,_,_,_,_,_,rfl⟩,by omega,Jo⟩,?_⟩;show N-(intOf (.int .i64 ((k:Int)+1))).toNat<N-(intOf (.int .i64 (k:Int))).toNat;exact dQ hlt
   case stop=>exact fun D c pre W hD hp h hK=>h.elim
theorem Gw (x:List dx) (v1:Value) (w:World) (h1:eQ w v1 x) (l1:bM x):Calls prog 74 #[v1] w (zQ w x):=
 uB x v1 w h1 (fun d hd=>(l1 d hd).big) fun hm=>oP l1 (dr.1 hm).2.2
end Go.Proofs.YtbigkioechkngaaGreat
namespace Go.Proofs.YtbigkioechkngaaGreat
open Go.RowKit Tryz
variable {pos:Int}{T:List (List aj)}{B D g k n:Nat}{v:Value}{W:World}{d:aO}
def cM (u:aj):List Value:=[.int .i64 u.1,.int .i64 u.2.1,.int .i64 u.2.2.1,.bool u.2.2.2]
def aI (l:List aj):List Value:=(l.map cM).flatten
theorem Ei (l:List aj) (u:aj):aI (l++[u])=aI l++cM u:=by unfold aI;simp
theorem mW (l:List aj):(aI l).length=l.length*4:=by
 induction l with
 |nil=>rfl
 |cons a l ih=>unfold aI at *;rw[List.map_cons,List.flatten_cons,List.length_append,ih,List.length_cons];unfold cM;simp only[List.length_cons,List.length_nil];omega
theorem ir:∀(l:List aj) (i:Nat) (u:aj) (j:Nat) (x:Value),l[i]?=some u→(cM u)[j]?=some x→(aI l)[i*4+j]?=some x
 |[],i,u,j,x,h,_=>by simp at h
 |a::l,0,u,j,x,h,hx=>by simp only[List.getElem?_cons_zero,Option.some.injEq] at h;subst h;have hj:=(List.getElem?_eq_some_iff.1 hx).1;unfold aI;rw[List.map_cons,List.flatten_cons,List.getElem?_append_left (by omega),Nat.zero_mul,Nat.zero_add];exact hx
 |a::l,i+1,u,j,x,h,hx=>by rw[List.getElem?_cons_succ] at h;have h1:=ir l i u j x h hx;unfold aI at *;rw[List.map_cons,List.flatten_cons,List.getElem?_append_right (by unfold cM;simp only[List.length_cons,List.length_nil];omega)];rw[show (i+1)*4+j-(cM a).length=i*4+j by unfold cM;simp only[List.length_cons,List.length_nil];omega];exact h1
theorem fj {w:World} {l:List aj} (h:w.ownsRow B 52 4 v l.length (aI l)):dA w v l:=by
 rcases aJ h with ⟨hv,hn,_⟩|⟨g,cap,hv⟩
 ·exact ⟨none,0,by rw[hv,hn],by omega,by unfold maxLen;omega,fun i x hx=>by rw[List.eq_nil_of_length_eq_zero hn] at hx;simp at hx⟩
 ·subst hv
  obtain ⟨_,_,_,h3,h4,_⟩:=bl h;refine ⟨_,cap,rfl,h3,h4,fun i x hx=>⟨g,0,rfl,?_⟩⟩;have key:∀(j:Nat) u,(cM x)[j]?=some u→w.cell? ⟨g,i*4+j,none⟩=some u:=fun j u hu=>by have h5:=ir l i x j u hx hu;obtain ⟨h6,h7⟩:=List.getElem?_eq_some_iff.1 h5;rw[bG h _ h6,h7]
  rw[Nat.zero_add];exact ⟨key 0 _ rfl,key 1 _ rfl,key 2 _ rfl,key 3 _ rfl⟩
theorem Vp:(prog.info? 52).map (fun i=>(i.zero,i.size,i.bytes))=some (some (.agg #[.int .i64 0,.int .i64 0,.int .i64 0,.bool false]),4,32):=by kernel_rfl
theorem yQ:(prog.info? 45).map (fun i=>(i.zero,i.size,i.bytes))=some (some (.slice none 0 0),1,24):=by kernel_rfl
theorem jm (W:World) (B n:Nat) (v:Value) (l:List aj) (u:aj) (hown:W.ownsRow B 52 4 v n (aI l)) (hn:n≤1000000) (hB:B≤W.heap.size) :
 ∃g cap w2,(Builtin.append_ #[45,45] 45 #[v,.slice (some ⟨W.heap.size,0,none⟩) 1 1]).run prog (W.alloc (.cells #[.int .i64 u.1,.int .i64 u.2.1,.int .i64 u.2.2.1,.bool u.2.2.2] 52))=.ok (.slice (some ⟨g,0,none⟩) (n+1) cap) w2 ∧
  w2.ownsRow B 52 4 (.slice (some ⟨g,0,none⟩) (n+1) cap) (n+1) (aI (l++[u]))∧Below B W w2∧zH W w2 v (.slice (some ⟨g,0,none⟩) (n+1) cap)∧∀a x,W.cell? a=some x→some a.block≠v.ownBlock→w2.cell? a=some x:=by
 obtain ⟨i0,iM,hz0,hz1,hz2⟩:=info_parts Vp;obtain ⟨v',w',h1,h2,h3,_,h5⟩:=run_append_own_at (P:=prog) (W.alloc (.cells #[.int .i64 u.1,.int .i64 u.2.1,.int .i64 u.2.2.1,.bool u.2.2.2] 52)) B 45 45 52 i0 _ 4 32 underlying45 iM hz0 hz1 hz2 rfl (by decide) v n _ (hown.alloc _) ⟨W.heap.size,0,none⟩ 1 1 (cM u) rfl (by
  intro j x hx;rw[jM,World.cell?_alloc_at _ _ _ _ rfl];unfold cM at hx;rcases j with _|_|_|_|j
  ·exact hx
  ·exact hx
  ·exact hx
  ·exact hx
  ·simp at hx) (by intro x hx;unfold cM at hx;simp only[List.mem_cons,List.not_mem_nil,or_false] at hx;rcases hx with rfl|rfl|rfl|rfl <;> rfl) (by unfold maxLen;omega) (by omega) (by simp;omega)
 obtain ⟨g,cap,rfl⟩:=ownsRow_succ h2;refine ⟨g,cap,w',h1,?_,lR aH hB hown h3,rE (fun B' e' k' u m ys h=>h.alloc _) h3 h5,fun a x hx hne=>h3.cell (ae (ar) hx) hne⟩;rw[Ei];exact h2
def fH (W:World) (B D g n:Nat) (T:List (List aj)):Prop:=
 ∃rs:List Value,T.length=n∧rs.length=n∧W.ownsRow B 45 1 (.slice (some ⟨g,0,none⟩) n n) n rs∧(∀(j:Nat) r t,rs[j]?=some r→T[j]?=some t→W.ownsRow D 52 4 r t.length (aI t))∧∀(i j:Nat) r r',i≠j→rs[i]?=some r→rs[j]?=some r'→eo r r'
theorem fH.below {W':World} (h:fH W B D g n T) (hb:Below W.heap.size W W'):fH W' B D g n T:=by obtain ⟨rs,h1,h2,h3,h4,h5⟩:=h;exact ⟨rs,h1,h2,kp h3 hb,fun j r t hr ht=>kp (h4 j r t hr ht) hb,h5⟩
theorem fH.len (h:fH W B D g n T):T.length=n:=h.choose_spec.1
theorem fH.one {c:Nat} {t:List aj} (h:fH W B D g n T) (ht:T[c]?=some t):∃r,W.cell? ⟨g,c,none⟩=some r∧W.ownsRow D 52 4 r t.length (aI t):=by
 obtain ⟨rs,h1,h2,h3,h4,h5⟩:=h;have hc:c<rs.length:=by have:=(List.getElem?_eq_some_iff.1 ht).1;omega
 exact ⟨rs[c],bG h3 c hc,h4 c _ t (List.getElem?_eq_getElem hc) ht⟩
theorem fH.at (h:fH W B D g n T) (hn:n≤1000):dH W (.slice (some ⟨g,0,none⟩) n n) T:=by have h9:=h;obtain ⟨rs,h1,h2,h3,h4,h5⟩:=h;refine ⟨_,n,by rw[h1],by omega,by unfold maxLen;omega,fun i t ht=>?_⟩;obtain ⟨r,hr,ho⟩:=h9.one ht;exact ⟨g,0,r,rfl,by rw[Nat.zero_add];exact hr,fj ho⟩
theorem zU (W:World) (n:Nat) (hn:n≤1000):∃w1,(Instr.makeSlice 28 (.int .i64 n) (.int .i64 n)).run prog W=.ok (.slice (some ⟨W.heap.size,0,none⟩) n n) w1∧(∀D,fH w1 W.heap.size D W.heap.size n (List.replicate n []))∧Below W.heap.size W w1:=by
 obtain ⟨i0,hi,hz0,hz1,hz2⟩:=info_parts yQ;obtain ⟨w1,jJ,hown,hg⟩:=run_make_full (P:=prog) W W.heap.size 28 45 i0 (.slice none 0 0) 1 underlying28 hi hz0 hz1 .i64 .i64 n (by rw[hz2];omega) (by unfold maxLen;omega) aT;have e:(Value.slice none 0 0).cells = #[Value.slice none 0 0]:=rfl;rw[e,toList_madeCells_one,Nat.mul_one] at hown;refine ⟨w1,jJ,fun D=>⟨_,by simp,by simp,hown,fun j r t hr ht=>?_,fun i j r r' _ hr _=>?_⟩,aH.grown hg aT (fun k e=>by cases e)⟩
 ·rw[List.getElem?_replicate] at hr ht
  split at hr
  ·simp only[Option.some.injEq] at hr;subst hr
   rw[if_pos (by assumption)] at ht;simp only[Option.some.injEq] at ht;subst ht;exact World.ownsRow_nil _ _ _ _
  ·simp at hr
 ·rw[List.getElem?_replicate] at hr
  split at hr
  ·simp only[Option.some.injEq] at hr;subst hr;exact .inl rfl
  ·simp at hr
theorem Me {B' j n' e:Nat} {u:Value} {xs rs:List Value} (h:W.ownsRow B e k v n xs) (hr:W.ownsRow B' 45 1 (.slice (some ⟨g,0,none⟩) n' n') n' rs) (hne:e≠45):(W.setCell ⟨g,j,none⟩ u).ownsRow B e k v n xs:=
 h.kept (av W g j u) (by
  rcases cP h hr hne with h1|h1
  ·exact .inl h1
  ·exact .inr h1)
theorem vL (Wr W:World) (B D g n c:Nat) (T:List (List aj)) (t:List aj) (u:aj) (hw:Below Wr.heap.size Wr W) (h:fH Wr B D g n T) (ht:T[c]?=some t) (hl:t.length≤1000000) (hD:D≤Wr.heap.size) :
 ∃r,W.cell? ⟨g,c,none⟩=some r∧∃g' cap w2,(Builtin.append_ #[45,45] 45 #[r,.slice (some ⟨W.heap.size,0,none⟩) 1 1]).run prog (W.alloc (.cells #[.int .i64 u.1,.int .i64 u.2.1,.int .i64 u.2.2.1,.bool u.2.2.2] 52))=.ok (.slice (some ⟨g',0,none⟩) (t.length+1) cap) w2∧w2.cell? ⟨g,c,none⟩=some r∧w2.frozen? ⟨g,c,none⟩=false∧fH (w2.setCell ⟨g,c,none⟩ (.slice (some ⟨g',0,none⟩) (t.length+1) cap)) B D g n (T.set c (t++[u]))∧Below D W w2∧∀a x,Wr.heap.size≤a.block→W.cell? a=some x→w2.cell? a=some x:=by
 have hW:=h.below hw;obtain ⟨r0,hc0,ho0⟩:=h.one ht;obtain ⟨rs,h1,h2,h3,h4,h5⟩:=hW;have hc:c<rs.length:=by have:=(List.getElem?_eq_some_iff.1 ht).1;omega
 have GA:rs[c]?=some rs[c]:=List.getElem?_eq_getElem hc;have hr0:=h4 c _ t GA ht;have her:rs[c]=r0:=by have e1:=bG h3 c hc;rw[hw.cell (World.block_lt_of_cell? _ _ hc0),hc0] at e1;injection e1 with e1;exact e1.symm
 obtain ⟨g',cap,w2,ha,hb,hbl,ho,gO⟩:=jm W D t.length _ t u hr0 hl (Nat.le_trans hD hw.size);have Mf:=(ho _ _ _ _ _ _ h3 (cP h3 hr0 (by decide))).1;refine ⟨rs[c],bG h3 c hc,_,_,w2,ha,bG Mf c hc,gj Mf c,⟨rs.set c _,by rw[List.length_set];exact h1,by rw[List.length_set];exact h2,lU Mf c _ hc,?_,?_⟩,hbl,fun a x zt hx=>gO a x hx ?_⟩
 ·intro j r t' hr J4
  by_cases hj:c=j
  ·subst hj
   rw[List.getElem?_set_self hc] at hr;rw[List.getElem?_set_self (by rw[h1,← h2];exact hc)] at J4;cases hr;cases J4;have:=Me (j:=c) (u:=.slice (some ⟨g',0,none⟩) (t.length+1) cap) hb Mf (by decide);rw[List.length_append];exact this
  ·rw[List.getElem?_set_ne hj] at hr J4
   exact Me (ho _ _ _ _ _ _ (h4 j r t' hr J4) (h5 j c r _ (fun e=>hj e.symm) hr GA)).1 Mf (by decide)
 ·intro i j r r' xz hr Xw
  by_cases hi:c=i
  ·subst hi
   rw[List.getElem?_set_self hc] at hr;rw[List.getElem?_set_ne xz] at Xw;cases hr;obtain ⟨t',J4⟩:∃t',T[j]?=some t':=⟨_,List.getElem?_eq_getElem (by have:=(List.getElem?_eq_some_iff.1 Xw).1;omega)⟩
   exact (ho _ _ _ _ _ _ (h4 j r' t' Xw J4) (h5 j c r' _ (fun e=>xz e.symm) Xw GA)).2.2
  ·rw[List.getElem?_set_ne hi] at hr
   by_cases hj:c=j
   ·subst hj
    rw[List.getElem?_set_self hc] at Xw;cases Xw;obtain ⟨t',J4⟩:∃t',T[i]?=some t':=⟨_,List.getElem?_eq_getElem (by have:=(List.getElem?_eq_some_iff.1 hr).1;omega)⟩
    exact (ho _ _ _ _ _ _ (h4 i r t' hr J4) (h5 i c r _ xz hr GA)).2.1
   ·rw[List.getElem?_set_ne hj] at Xw
    exact h5 i j r r' xz hr Xw
 ·rw[her]
  intro e;have:=(ho0.lt _ e.symm).2;omega
def Ub (g:Nat) (W W':World):Prop:=∀b,g<b→b<W.heap.size→W'.heap[b]?=W.heap[b]?
theorem Ub.cell {W':World} (h:Ub g W W') {a:Addr} (hv:W.cell? a=some v) (hg:g<a.block):W'.cell? a=some v:=
 (World.cell?_of_block (h a.block hg (World.block_lt_of_cell? _ _ hv))).trans hv
theorem Ub.refl (g:Nat) (W:World):Ub g W W:=fun _ _ _=>rfl
theorem Ub.step {W1 W2 w2:World} {r:Value} {c:Nat} (h:Ub g W W1) (hs:W.heap.size≤W1.heap.size) (hb:Below W1.heap.size W1 W2) (hD:W.heap.size≤D) (h2:Below D W2 w2):Ub g W (w2.setCell ⟨g,c,none⟩ r):=fun b hg hlt=>by rw[Below.heap_setCell _ _ _ b (fun e=>by simp only at e;omega),h2.block b (by omega),hb.block b (by omega),h b hg hlt]
def qF (p:ay):aj:=((bI p.1).pos,cg (bI p.1).size,p.2,true)
def fP (p:ay):Nat:=(bI p.1).chunk.toNat
def mf (n:Nat) (p:ay):Bool:=rX p.1&&decide ((bI p.1).chunk<n)
def sG (T:List (List aj)) (p:ay):List (List aj):=T.set (fP p) ((T[fP p]?).getD []++[qF p])
def fY (n:Nat):List (List aj)→List ay→Option (List (List aj))
 |T,[]=>some T
 |T,p::l=>if mf n p=true then fY n (sG T p) l else none
noncomputable def bX (l:List dx) (c:Int):Option (List (List aj)):=
 if 1≤c∧c≤1000∧dP l=true then match fY c.toNat (List.replicate c.toNat []) (aX l) with
  |none=>none
  |some T=>if T.all dE=true then some T else none
 else none
theorem vM {l:List dx} (h:dP l=true):∀p∈aX l,rX p.1=true∧1≤p.2∧p.2=((cY l).count p.1:Nat):=fun p hp=>by
 have h1:=((lz h).2 p).1 hp;refine ⟨?_,?_,h1.2⟩
 ·have hm:=h1.1
  unfold cY at hm;rw[List.mem_flatten] at hm;obtain ⟨r,hr,hx⟩:=hm;rw[List.mem_map] at hr;obtain ⟨d,hd,rfl⟩:=hr;unfold gX at hx;rw[List.mem_map] at hx;obtain ⟨x,hx,FP⟩:=hx;have hd:=(dr.1 h).1 d hd;unfold cE at hd;simp only[Bool.and_eq_true,List.all_eq_true] at hd;have:=hd.2 x hx;unfold dG at this;simp only[Bool.and_eq_true] at this;rw[← FP];exact this.1
 ·rw[h1.2]
  have:=List.count_pos_iff.2 h1.1;omega
theorem GD:∀(l:List ay) (out:List ay),(dX out l).length≤out.length+l.length
 |[],out=>by simp[dX]
 |a::l,out=>by have h1:=GD l (fB out a.2 ((kd out a.2).1+1) false);have h2:=qh out a.2 ((kd out a.2).1+1) false;simp only[dX,List.length_cons];simp only[Bool.false_eq_true,if_false] at h2;omega
theorem CG:∀(l:List dx) (out:List ay),(eU out l).length≤out.length+(cY l).length
 |[],out=>by simp[eU]
 |d::l,out=>by
  have h1:=CG l (dX out (aA d.map));have h2:=GD (aA d.map) out;have e:(cY (d::l)).length=(aA d.map).length+(cY l).length:=by unfold cY gX;rw[List.map_cons,List.flatten_cons,List.length_append,List.length_map]
  simp only[eU];omega
theorem tC {l:List dx} (h:dP l=true→(cY l).length≤n):(aX l).length≤n:=by
 unfold aX
 split
 ·rename_i hm
  have h1:=CG l [];have h2:=h hm;simp only[List.length_nil] at h1;omega
 ·exact Nat.zero_le _
theorem CH (T:List (List aj)) (p:ay):(sG T p).length=T.length:=by unfold sG;rw[List.length_set]
theorem oT {l:List ay} {p:ay} (h:l[k]?=some p):fY n T (l.drop k)=if mf n p=true then fY n (sG T p) (l.drop (k+1)) else none:=by obtain ⟨hk,hx⟩:=List.getElem?_eq_some_iff.1 h;rw[List.drop_eq_getElem_cons hk,hx];rfl
theorem vN (d:aO) (vk vc vp:Value) (w:World) (h:bN w d vk vc vp):Calls prog 49 #[ew d vk vc vp] w fun e w'=>e=.returned (.bool (fZ d))∧Bw w w':=by
 obtain ⟨pk,ck,rfl,a1,a2⟩:=h.kept.slice;obtain ⟨pc,cc,rfl,b1,b2⟩:=h.cache.slice;obtain ⟨pp,cp,rfl,_,_⟩:=h.keep.slice;have HK:=aa h.kept.cells;have HC:=aa h.cache.cells;have fJ:=aa h.bd;obtain ⟨q,hq⟩:=aG (fZ d);have HQ:=aa (gu d);rw[hq] at HQ ⊢;obtain ⟨kept,cache,ah,keep,dead⟩:=d;simp only at HK HC HQ a1 b1 ⊢;unfold ew;simp only;obtain ⟨N,hN⟩:=aG kept.length;obtain ⟨M,hM⟩:=aG cache.length;obtain ⟨L,hL⟩:=aG keep.length;rw[hN,hM] at HQ;rw[hN,hM,hL];rw[hN] at a1;rw[hM] at b1;have HN:=aa hN;have HM:=aa hM;have lN:=fG (n:=N) a2;have lM:=fG (n:=M) b2;clear h hq hN hM hL a1 a2 b1 b2;obtain ⟨W1,hW1⟩:=aG (w.alloc (.cells #[.slice pk N ck,.slice pc M cc,.int .i64 ah,.slice pp L cp,.bool dead] 26));have aY:=aa (show Bw w W1 by rw[← hW1];exact ar);have aU:=aa (show eH W1 w.heap.size (.slice pk N ck) (.slice pc M cc) (.int .i64 ah) (.slice pp L cp) (.bool dead) by rw[← hW1];exact eH.new w _ _ _ _ _ _);have ee:=aa hW1;clear hW1;go_enter func49,ntmps49;go_upto_region 1 with fail;rw[ee.o];obtain ⟨x0,x1,x2,x3,x4⟩:=aU.o;have hc:(N:Int)<1∨((1:Int)≤(N:Int)∧(5000:Int)<(N:Int))∨((1:Int)≤(N:Int)∧(N:Int)≤5000∧(20000:Int)<(M:Int))∨((1:Int)≤(N:Int)∧(N:Int)≤5000∧(M:Int)≤20000∧ah < -1)∨((1:Int)≤(N:Int)∧(N:Int)≤5000∧(M:Int)≤20000 ∧ -1≤ah):=by omega
 rcases hc with c1|⟨c1,c2⟩|⟨c1,c2,c3⟩|⟨c1,c2,c3,c4⟩|⟨c1,c2,c3,c4⟩
 ·have HF:=aa (show q=false by rw[← Bool.not_eq_true,HQ.o];intro h;omega)
  obtain rfl:N=0:=by omega
  go_wp2_with fail;go_ret;exact ⟨aN HF.symm,aY⟩
 ·have HF:=aa (show q=false by rw[← Bool.not_eq_true,HQ.o];intro h;omega)
  have d1:decide ((N:Int)<1)=false:=by simp;omega
  have d2:decide (N<1)=false:=by simp;omega
  have d3:(N==0)=false:=by simp;omega
  go_wp2_with fail;go_ret;exact ⟨aN HF.symm,aY⟩
 ·have HF:=aa (show q=false by rw[← Bool.not_eq_true,HQ.o];intro h;omega)
  go_wp2_with fail;go_ret;exact ⟨aN HF.symm,aY⟩
 ·have HF:=aa (show q=false by rw[← Bool.not_eq_true,HQ.o];intro h;omega)
  go_wp2_with fail;go_ret;exact ⟨aN HF.symm,aY⟩
 have Rx:=aa (And.intro c1 (And.intro c2 (And.intro c3 c4)));have e1:decide (5000<(N:Int))=false:=by simp;omega
 go_wp2_with fail;clear x0 x1 x2 x3 x4;go_loopw [3] (fun i wr=>∃k:Nat,k≤N∧i=.int .i64 k∧(∀(j:Nat) s,j<k→kept[j]?=some s→s.size=32)∧Bw W1 wr) (fun i _=>N-(intOf i).toNat)
 case atStart=>exact ⟨0,dO,rfl,fun j s hj=>by omega,aH⟩
 case round=>
  obtain ⟨k,hk,rfl,hall,hb⟩:=hrel;have pN:=aa hall;have HB:=aa hb;obtain ⟨x0,x1,_,_,_⟩:=aU.below hb;clear hall hb;by_cases hlt:k<N
  ·have fN:(k:Int)<(N:Int):=by omega
   obtain ⟨s,hs⟩:=fx (l:=kept) (k:=k) (by rw[HN.o];exact hlt);obtain ⟨g,o,rfl,hcell⟩:=HK.o k s hs;have r0:=ae HB (ae aY (hcell 0 _ rfl));replace r0:wr.cell? ⟨g,o+k,none⟩=some (.string s):=by simpa using r0
   have wV:s.size≤9223372036854775807:=by have:=fJ.kept s (List.mem_of_getElem? hs);unfold maxLen at this;exact this
   have HS:=aa hs;clear hcell hs;by_cases h32:s.size=32
   ·have d1:((s.size:Int) != 32)=false:=by simp;omega
    have d2:(s.size != 32)=false:=(by simp[h32]);have H32:=aa h32;clear h32;go_wp2_with fail;go_roundw
    case rel=>exact ⟨k+1,by omega,by go_num,fun j y hj hy=>by
     by_cases e:j=k
     ·subst e;rw[HS.o] at hy;cases hy;exact H32.o
     ·exact pN.o j y (by omega) hy,HB.o⟩
    case measure=>simp[intOf];omega
   ·have d1:((s.size:Int) != 32)=true:=by simp;omega
    have d2:(s.size != 32)=true:=(by simp[h32]);have HF:=aa (show q=false by rw[← Bool.not_eq_true,HQ.o];intro h;exact h32 (h.2.1 s (List.mem_of_getElem? HS)));clear h32;go_wp2_with fail;go_ret;exact ⟨aN HF.symm,ak aY HB⟩
  ·obtain rfl:k=N:=by omega
   have Ry:=aa (show ∀s∈kept,s.size=32 from fun s hs=>by
    obtain ⟨j,hj⟩:=List.getElem?_of_mem hs;have D7:=(List.getElem?_eq_some_iff.1 hj).1;rw[HN.o] at D7;exact pN j s D7 hj)
   go_wp2_with fail;clear x0 x1;go_loopw [4] (fun i wz=>∃j:Nat,j≤M∧i=.int .i64 j∧(∀(i:Nat) p,i<j→cache[i]?=some p→0≤p.1∧p.1<(k:Int)∧p.2.size=32)∧Bw W1 wz) (fun i _=>M-(intOf i).toNat)
   case atStart=>exact ⟨0,dO,rfl,fun j s hj=>by omega,HB⟩
   case round=>
   obtain ⟨j,hj,rfl,hall,hb⟩:=hrel;have GI:=aa hall;have bS:=aa hb;obtain ⟨x0,x1,_,_,_⟩:=aU.below hb;clear hall hb;by_cases iZ:j<M
   ·have Gg:(j:Int)<(M:Int):=by omega
    have Rz:(0:Int)≤(j:Int):=(by omega);obtain ⟨⟨y,s⟩,hs⟩:∃s,cache[j]?=some s:=⟨_,List.getElem?_eq_getElem (by rw[HM.o];exact iZ)⟩
    obtain ⟨g,o,rfl,hcell⟩:=HC.o j _ hs;have r0:=ae bS (ae aY (hcell 0 _ rfl));have r1:=ae bS (ae aY (hcell 1 _ rfl));replace r0:wr.cell? ⟨g,o+j*2,none⟩=some (.int .i64 y):=r0;replace r1:wr.cell? ⟨g,o+j*2+1,none⟩=some (.string s):=r1;have wV:s.size≤9223372036854775807:=by have:=(fJ.cache _ (List.mem_of_getElem? hs)).2;unfold maxLen at this;exact this
    have HS:=aa hs;clear hcell hs;by_cases fg:0≤y∧y<(k:Int)∧s.size=32
    ·have HG:=aa fg
     have d1:decide (y<0)=false:=by simp;omega
     have d2:decide ((k:Int)≤y)=false:=by simp;omega
     have d3:((s.size:Int) != 32)=false:=by simp;omega
     have d4:(s.size != 32)=false:=(by simp[fg.2.2]);clear fg;go_wp2_with fail;go_quiet (fail);go_wp2_with fail;go_roundw
     case rel=>exact ⟨j+1,by omega,by go_num,fun i p hi hp=>by
      by_cases e:i=j
      ·subst e;rw[HS.o] at hp;cases hp;exact HG.o
      ·exact GI.o i p (by omega) hp,az bS.o _⟩
     case measure=>simp[intOf];omega
    ·have HF:=aa (show q=false by rw[← Bool.not_eq_true,HQ.o];intro h;exact fg (h.2.2 _ (List.mem_of_getElem? HS)))
     have hc:y<0∨(¬y<0∧(k:Int)≤y)∨(¬y<0∧¬(k:Int)≤y∧¬s.size=32):=(by omega);clear fg;rcases hc with c5|⟨c5,c6⟩|⟨c5,c6,c7⟩
     ·have d1:decide (y<0)=true:=by simp;omega
      go_wp2_with fail;go_quiet (fail);go_wp2_with fail;go_ret;exact ⟨aN HF.symm,ak aY (az bS _)⟩
     ·have d1:decide (y<0)=false:=by simp;omega
      have d2:decide ((k:Int)≤y)=true:=by simp;omega
      go_wp2_with fail;go_quiet (fail);go_wp2_with fail;go_ret;exact ⟨aN HF.symm,ak aY (az bS _)⟩
     ·have d1:decide (y<0)=false:=by simp;omega
      have d2:decide ((k:Int)≤y)=false:=by simp;omega
      have d3:((s.size:Int) != 32)=true:=by simp;omega
      have d4:(s.size != 32)=true:=(by simp[c7]);go_wp2_with fail;go_quiet (fail);go_wp2_with fail;go_ret;exact ⟨aN HF.symm,ak aY (az bS _)⟩
   ·obtain rfl:j=M:=by omega
    have HF:=aa (show q=true by
     rw[HQ.o];have:=Rx.o;refine ⟨by omega,Ry,fun p hp=>?_⟩;obtain ⟨i,hi⟩:=List.getElem?_of_mem hp;have pO:=(List.getElem?_eq_some_iff.1 hi).1;rw[HM.o] at pO;exact GI i p pO hi)
    go_wp2_with fail;go_ret;exact ⟨aN HF.symm,ak aY bS⟩
theorem RA (h:fZ d=false):gw d pos=(eh,1):=by unfold gw;rw[if_pos h]
theorem J9 (h:fZ d=true) (h2:d.dead=true):gw d pos=(eh,90):=by unfold gw;rw[if_neg (by rw[h];simp),if_pos h2]
theorem NB (h:fZ d=true) (h2:d.dead=false) (h3:pos<0∨(d.kept.length:Int)≤pos):gw d pos=(eh,1):=by unfold gw;rw[if_neg (by rw[h];simp),if_neg (by rw[h2];simp),if_pos h3]
theorem RB {s:ByteArray} (h:fZ d=true) (h2:d.dead=false) (h3:d.kept[k]?=some s):gw d k=(kE d.cache k s,0):=by have:=(List.getElem?_eq_some_iff.1 h3).1;unfold gw;rw[if_neg (by rw[h];simp),if_neg (by rw[h2];simp),if_neg (by omega),Int.toNat_natCast,h3];rfl
theorem zX {s s':ByteArray} {c c':Int} (h1:s=s') (h2:c=c'):Ending.returned (.tuple #[.string s,.int .i64 c])=.returned (.tuple #[.string s',.int .i64 c']):=by rw[h1,h2]
end Go.Proofs.YtbigkioechkngaaGreat
namespace Go.Proofs.YtbigkioechkngaaGreat
open Tryz
variable {l out:List Int}{N:Nat}
structure dU where
 wt:Int
 num:Int
 ins:List Int
deriving Inhabited
def pF (a b:dU):Bool:=decide (a.wt<b.wt) || (a.wt==b.wt&&decide (a.num<b.num))
def qG (l:List dU) (i:Nat):dU:=(l[i]?).getD default
def oU (l:List dU):Nat→Nat→Nat→Nat
 |0,_,p=>p
 |n+1,i,p=>oU l n (i+1) (if pF (qG l i) (qG l p)=true then i else p)
def cW (l:List dU):Nat:=oU l (l.length-1) 1 0
theorem vO (l:List dU):∀(n i p:Nat),i+n=l.length→p<l.length→(∀j,j<i→(qG l p).wt≤(qG l j).wt)→oU l n i p<l.length∧∀j,j<l.length→(qG l (oU l n i p)).wt≤(qG l j).wt
 |0,i,p,h1,h2,h3=>⟨h2,fun j hj=>h3 j (by omega)⟩
 |n+1,i,p,h1,h2,h3=>by
  unfold oU
  split
  ·rename_i hl
   unfold pF at hl;have hw:(qG l i).wt≤(qG l p).wt:=by simp only[Bool.or_eq_true,decide_eq_true_eq,Bool.and_eq_true,beq_iff_eq] at hl;omega
   refine vO l n (i+1) i (by omega) (by omega) fun j hj=>?_;by_cases e:j=i
   ·subst e;exact Int.le_refl _
   ·exact Int.le_trans hw (h3 j (by omega))
  ·rename_i hl
   have hw:(qG l p).wt≤(qG l i).wt:=by unfold pF at hl;simp only[Bool.or_eq_true,decide_eq_true_eq,Bool.and_eq_true,beq_iff_eq] at hl;omega
   refine vO l n (i+1) p (by omega) h2 fun j hj=>?_;by_cases e:j=i
   ·subst e;exact hw
   ·exact h3 j (by omega)
theorem lJ {l:List dU} (h:1≤l.length):cW l<l.length∧∀x∈l,(qG l (cW l)).wt≤x.wt:=by
 have h0:∀j,j<1→(qG l 0).wt≤(qG l j).wt:=by
  intro j hj;obtain rfl:j=0:=by omega
  exact Int.le_refl _
 have:=vO l (l.length-1) 1 0 (by omega) (by omega) h0;refine ⟨this.1,fun x hx=>?_⟩;obtain ⟨j,hj⟩:=List.getElem?_of_mem hx;have h2:=this.2 j (List.getElem?_eq_some_iff.1 hj).1;unfold qG at h2;rw[hj] at h2;exact h2
def sI (a b:dU):dU:=⟨a.wt+b.wt,min a.num b.num,a.ins++b.ins⟩
def fV (out:List Int) (s:Int):List Int:=out.set s.toNat ((out[s.toNat]?).getD 0+1)
def gA (out:List Int) (l:List Int):List Int:=l.foldl fV out
theorem tE (out:List Int) (s:Int):(fV out s).length=out.length:=by unfold fV;rw[List.length_set]
theorem tF (l:List Int):∀out:List Int,(gA out l).length=out.length:=by
 induction l with
 |nil=>intro out;rfl
 |cons s l ih=>intro out;unfold gA at *;rw[List.foldl_cons,ih,tE]
def zY (l:List dU):List dU:=((l.eraseIdx (cW l)).eraseIdx (cW (l.eraseIdx (cW l))))++[sI (qG l (cW l)) (qG (l.eraseIdx (cW l)) (cW (l.eraseIdx (cW l))))]
def CI (l:List dU) (out:List Int):List Int:=gA out ((qG l (cW l)).ins++(qG (l.eraseIdx (cW l)) (cW (l.eraseIdx (cW l)))).ins)
theorem abB {l:List dU} (h:2≤l.length):(zY l).length=l.length-1:=by unfold zY;have h1:=(lJ (l:=l) (by omega)).1;have e1:(l.eraseIdx (cW l)).length=l.length-1:=List.length_eraseIdx_of_lt h1;have h2:=(lJ (l:=l.eraseIdx (cW l)) (by omega)).1;rw[List.length_append,List.length_eraseIdx_of_lt h2,e1,List.length_singleton];omega
def oq:Nat→List dU→List Int→List Int
 |0,_,out=>out
 |n+1,l,out=>if 2≤l.length then oq n (zY l) (CI l out) else out
def sJ (f:List Int) (i:Nat):List dU:=if 0<(f[i]?).getD 0 then [⟨(f[i]?).getD 0,(i:Nat),[(i:Nat)]⟩] else []
def bZ (f:List Int):Nat→List dU
 |0=>[]
 |n+1=>bZ f n++sJ f n
def oV (f:List Int) (l:List dU):List Int:=if l.length=1 then (List.replicate f.length 0).set (qG l 0).num.toNat 1 else List.replicate f.length 0
def iO (f:List Int):List Int:=oq f.length (bZ f f.length) (oV f (bZ f f.length))
theorem NC (f:List Int) (i:Nat):(sJ f i).length≤1:=by unfold sJ;split <;> simp
theorem GJ (f:List Int):∀n,(bZ f n).length≤n
 |0=>Nat.le_refl _
 |n+1=>by have:=GJ f n;have:=NC f n;rw[bZ,List.length_append];omega
theorem CJ:∀(n:Nat) (l:List dU) (out:List Int),(oq n l out).length=out.length
 |0,_,_=>rfl
 |n+1,l,out=>by
  unfold oq
  split
  ·rw[CJ n];unfold CI;rw[tF]
  ·rfl
theorem vP (f:List Int):(iO f).length=f.length:=by unfold iO;rw[CJ];unfold oV;split <;> simp
theorem Ka {n:Nat} {l:List dU} (h:l.length≤1):oq n l out=out:=by
 cases n with
 |zero=>rfl
 |succ n=>unfold oq;rw[if_neg (by omega)]
def mO:Nat→Int
 |0=>0
 |1=>1
 |n+2=>mO n+mO (n+1)
theorem mm:∀n,0≤mO n∧1≤mO (n+1)
 |0=>⟨by decide,by decide⟩
 |n+1=>by have:=mm n;exact ⟨by omega,by rw[mO];omega⟩
theorem ND {a b:Nat} (h:a≤b):mO a≤mO b:=by
 induction b with
 |zero=>
  have:a=0:=by omega
  subst this;exact Int.le_refl _
 |succ b ih=>
  by_cases e:a=b+1
  ·subst e;exact Int.le_refl _
  ·have h1:=ih (by omega)
   refine Int.le_trans h1 ?_;cases b with
   |zero=>decide
   |succ b=>have:=(mm b).1;rw[mO];omega
abbrev Ek:=dU×Nat×Int
theorem RD {m:List Int} (p:l.Perm m):l.sum=m.sum:=by
 induction p with
 |nil=>rfl
 |cons x _ ih=>simp[ih]
 |swap x y l=>simp only[List.sum_cons];omega
 |trans _ _ h1 h2=>exact h1.trans h2
structure BS (N:Nat) (out:List Int) (G:List Ek):Prop where
 len:out.length=N
 one:∀x∈G,mO (x.2.1+1)≤x.1.wt∧mO x.2.1≤x.2.2∧∀s∈x.1.ins,0≤s∧s<N∧(out[s.toNat]?).getD 0≤x.2.1
 two:G.Pairwise fun x y=>y.2.2≤x.1.wt∧x.2.2≤y.1.wt
 nodup:(G.map fun x=>x.1.ins).flatten.Nodup
 sum:(G.map fun x=>x.1.wt).sum≤1000
 rest:∀s:Nat,(s:Int)∉(G.map fun x=>x.1.ins).flatten→(out[s]?).getD 0≤1
 low:∀x∈out,0≤x
 GK:∀x∈G,0≤x.1.num∧x.1.num<N
 tot:(G.map fun x=>x.1.ins).flatten.length≤N
theorem BS.perm {G H:List Ek} (h:BS N out G) (p:G.Perm H):BS N out H where
 len:=h.len
 one:=fun x hx=>h.one x (p.symm.subset hx)
 two:=(p.pairwise_iff (fun BM=>⟨BM.2,BM.1⟩)).1 h.two
 nodup:=((p.map fun x=>x.1.ins).flatten.nodup_iff).1 h.nodup
 sum:=by have:(G.map fun x=>x.1.wt).sum=(H.map fun x=>x.1.wt).sum:=RD (p.map fun x=>x.1.wt);rw[← this];exact h.sum
 rest:=fun s hs=>h.rest s (fun hm=>hs ((p.map fun x=>x.1.ins).flatten.subset hm))
 low:=h.low
 GK:=fun x hx=>h.GK x (p.symm.subset hx)
 tot:=by rw[← (p.map fun x=>x.1.ins).flatten.length_eq];exact h.tot
theorem zZ:∀(l:List Int) (out:List Int),l.Nodup→(∀s∈l,0≤s∧s<out.length)→∀s:Nat,((gA out l)[s]?).getD 0=(out[s]?).getD 0+if (s:Int)∈l then 1 else 0
 |[],out,_,_,s=>by simp[gA]
 |a::l,out,hn,hb,s=>by
  have ha:=hb a (by simp);have rG:=List.nodup_cons.1 hn;have ih:=zZ l (fV out a) rG.2 (fun x hx=>by rw[tE];exact hb x (by simp[hx])) s;show ((gA (fV out a) l)[s]?).getD 0=_;rw[ih];by_cases e:(s:Int)=a
  ·have hs:a.toNat=s:=by omega
   have h1:((fV out a)[s]?).getD 0=(out[s]?).getD 0+1:=by unfold fV;rw[hs,List.getElem?_set_self (by omega)];rfl
   rw[h1,if_neg (by rw[e];exact rG.1),if_pos (by simp[e])];omega
  ·have h1:((fV out a)[s]?).getD 0=(out[s]?).getD 0:=by
    unfold fV;rw[List.getElem?_set_ne (by omega)]
   rw[h1];by_cases e2:(s:Int)∈l
   ·rw[if_pos e2,if_pos (by simp[e2])]
   ·rw[if_neg e2,if_neg (by simp[e,e2])]
theorem Aa (s:Int) (h:∀x∈out,0≤x):∀x∈fV out s,0≤x:=by
 intro x hx;unfold fV at hx;rcases List.mem_or_eq_of_mem_set hx with hx|rfl
 ·exact h x hx
 ·cases hs:out[s.toNat]? with
  |none=>simp
  |some y=>have:=h y (List.mem_of_getElem? hs);simp;omega
theorem Ab (l:List Int):∀ {out:List Int},(∀x∈out,0≤x)→∀x∈gA out l,0≤x:=by
 induction l with
 |nil=>intro out h;exact h
 |cons a l ih=>intro out h;unfold gA at *;rw[List.foldl_cons];exact ih (Aa a h)
theorem BS.join {a b:dU} {da db:Nat} {ma mb:Int} {R:List Ek} (h:BS N out ((a,da,ma)::(b,db,mb)::R)) (_ha:∀x∈R,a.wt≤x.1.wt) (hab:a.wt≤b.wt) (hb:∀x∈R,b.wt≤x.1.wt) :
 BS N (gA out (a.ins++b.ins)) ((sI a b,max da db+1,b.wt)::R):=by
 have h1:=h.one (a,da,ma) (by simp);have h2:=h.one (b,db,mb) (by simp);have hp:=List.pairwise_cons.1 h.two;have hp2:=List.pairwise_cons.1 hp.2;have ai6:=hp.1 (b,db,mb) (by simp);simp only at h1 h2 ai6;have rG:=h.nodup;simp only[List.map_cons,List.flatten_cons] at rG;have ai7:(a.ins++b.ins).Nodup:=by rw[← List.append_assoc] at rG;exact (List.nodup_append.1 rG).1
 have hget:=zZ (a.ins++b.ins) out ai7 (fun s hs=>by
  rw[h.len];rcases List.mem_append.1 hs with hs|hs
  ·exact ⟨(h1.2.2 s hs).1,(h1.2.2 s hs).2.1⟩
  ·exact ⟨(h2.2.2 s hs).1,(h2.2.2 s hs).2.1⟩)
 have hda:mO (max da db+2)≤a.wt+b.wt∧mO (max da db+1)≤b.wt:=by
  by_cases e:da≤db
  ·rw[Nat.max_eq_right e]
   have:mO (db+2)=mO db+mO (db+1):=rfl;omega
  ·rw[Nat.max_eq_left (by omega)]
   have:mO (da+2)=mO da+mO (da+1):=rfl;omega
 refine {len:=by rw[tF];exact h.len,one:=?_,two:=?_,nodup:=?_,sum:=?_,rest:=?_,low:=Ab _ h.low,GK:=?_,tot:=?_}
 ·intro x hx
  rcases List.mem_cons.1 hx with rfl|hx
  ·refine ⟨hda.1,hda.2,fun s hs=>?_⟩
   have nM:s∈a.ins++b.ins:=hs;have key:∃d,d≤max da db∧0≤s∧s<N∧(out[s.toNat]?).getD 0≤(d:Nat):=by
    rcases List.mem_append.1 nM with h3|h3
    ·have:=h1.2.2 s h3;exact ⟨da,Nat.le_max_left _ _,this.1,this.2.1,this.2.2⟩
    ·have:=h2.2.2 s h3;exact ⟨db,Nat.le_max_right _ _,this.1,this.2.1,this.2.2⟩
   obtain ⟨d,k1,k2,k3,k4⟩:=key;refine ⟨k2,k3,?_⟩;rw[hget s.toNat,if_pos (by rw[show ((s.toNat:Nat):Int)=s by omega];exact nM)];simp only;omega
  ·have h3:=h.one x (by simp[hx])
   refine ⟨h3.1,h3.2.1,fun s hs=>?_⟩;have h4:=h3.2.2 s hs;refine ⟨h4.1,h4.2.1,?_⟩;rw[hget s.toNat,if_neg]
   ·simpa using h4.2.2
   ·rw[show ((s.toNat:Nat):Int)=s by omega]
    intro hm;rw[← List.append_assoc] at rG;exact (List.nodup_append.1 rG).2.2 s hm s (List.mem_flatten.2 ⟨_,List.mem_map.2 ⟨x,hx,rfl⟩,hs⟩) rfl
 ·refine List.pairwise_cons.2 ⟨fun x hx=>⟨?_,hb x hx⟩,hp2.2⟩
  have h3:=(hp.1 x (by simp[hx])).1;have h4:=(hp2.1 x hx).1;have h5:=(mm da).2;have h6:=(mm db).2;simp only at h3 h4;show x.2.2≤a.wt+b.wt;omega
 ·simp only[List.map_cons,List.flatten_cons,sI]
  rw[List.append_assoc];exact rG
 ·have:=h.sum
  simp only[List.map_cons,List.sum_cons] at this ⊢;show a.wt+b.wt+_≤1000;omega
 ·intro s hs
  rw[hget s];simp only[List.map_cons,List.flatten_cons,sI,List.mem_append,not_or] at hs;rw[if_neg (by simp only[List.mem_append,not_or];exact ⟨hs.1.1,hs.1.2⟩)];have:=h.rest s (by simp only[List.map_cons,List.flatten_cons,List.mem_append,not_or];exact ⟨hs.1.1,hs.1.2,hs.2⟩);omega
 ·intro x hx
  rcases List.mem_cons.1 hx with rfl|hx
  ·have n1:=h.GK (a,da,ma) (by simp)
   have n2:=h.GK (b,db,mb) (by simp);simp only at n1 n2;show 0≤min a.num b.num∧min a.num b.num<N;omega
  ·exact h.GK x (by simp[hx])
 ·have:=h.tot
  simp only[List.map_cons,List.flatten_cons,sI,List.length_append] at this ⊢;omega
theorem BS.small {G:List Ek} (h:BS N out G):∀x∈out,x≤15:=by
 intro x hx;obtain ⟨s,hs⟩:=List.getElem?_of_mem hx;by_cases hm:(s:Int)∈(G.map fun x=>x.1.ins).flatten
 ·obtain ⟨q,hq,D5⟩:=List.mem_flatten.1 hm
  obtain ⟨y,hy,rfl⟩:=List.mem_map.1 hq;have h1:=h.one y hy;have h2:=(h1.2.2 s D5).2.2;simp only[Int.toNat_natCast,hs,Option.getD_some] at h2;have hw:y.1.wt≤1000:=by
   refine Int.le_trans ?_ h.sum;have key:∀(G:List Ek),(∀x∈G,0≤x.1.wt)→y∈G→y.1.wt≤(G.map fun x=>x.1.wt).sum:=by
    intro G
    induction G with
    |nil=>intro _ h;simp at h
    |cons g G ih=>
     intro hg hy;have Qg:0≤(G.map fun x=>x.1.wt).sum:=by
      have:∀(G:List Ek),(∀x∈G,0≤x.1.wt)→0≤(G.map fun x=>x.1.wt).sum:=by
       intro G
       induction G with
       |nil=>intro _;simp
       |cons g G ih=>intro hg;have:=ih (fun x hx=>hg x (by simp[hx]));have:=hg g (by simp);simp only[List.map_cons,List.sum_cons];omega
      exact this G (fun x hx=>hg x (by simp[hx]))
     simp only[List.map_cons,List.sum_cons];rcases List.mem_cons.1 hy with rfl|hy
     ·omega
     ·have:=ih (fun x hx=>hg x (by simp[hx])) hy
      have:=hg g (by simp);omega
   exact key G (fun x hx=>by have:=(h.one x hx).1;have:=(mm x.2.1).2;omega) hy
  by_cases hd:y.2.1≤15
  ·omega
  ·have:=ND (show 17≤y.2.1+1 by omega)
   have e:mO 17=1597:=(by decide);omega
 ·have:=h.rest s hm
  rw[hs] at this;simp only[Option.getD_some] at this;omega
theorem CK {α β:Type} {f:α→β} {G:List α} {x:β} {m:List β} (p:(G.map f).Perm (x::m)):∃g R,G.Perm (g::R)∧f g=x∧(R.map f).Perm m:=by
 have hx:x∈G.map f:=p.symm.subset (by simp);obtain ⟨g,hg,rfl⟩:=List.mem_map.1 hx;obtain ⟨s,t,rfl⟩:=List.append_of_mem hg;refine ⟨g,s++t,List.perm_middle,rfl,?_⟩;have h1:((s++g::t).map f).Perm (f g::(s++t).map f):=by
  have:=(List.perm_middle (a:=g) (l₁:=s) (l₂:=t)).map f
  rwa [List.map_cons] at this
 exact (List.perm_cons (f g)).1 (h1.symm.trans p)
theorem Ac {l:List dU} {i:Nat} (h:i<l.length):l.Perm (qG l i::l.eraseIdx i):=by
 have e:qG l i=l[i]:=by unfold qG;rw[List.getElem?_eq_getElem h];rfl
 rw[e,List.eraseIdx_eq_take_drop_succ];have h1:l=l.take i++l[i]::l.drop (i+1):=by rw[← List.drop_eq_getElem_cons h,List.take_append_drop]
 conv=>lhs;rw[h1]
 exact List.perm_middle
def nG (N:Nat) (l:List dU) (out:List Int):Prop:=(l.length≤1∧out.length=N∧∀x∈out,0≤x∧x≤15)∨∃G:List Ek,BS N out G∧(G.map Prod.fst).Perm l
theorem nG.small {l:List dU} (h:nG N l out):out.length=N∧∀x∈out,0≤x∧x≤15:=by
 rcases h with ⟨_,h⟩|⟨G,h,_⟩
 ·exact h
 ·exact ⟨h.len,fun x hx=>⟨h.low x hx,h.small x hx⟩⟩
theorem nG.step {l:List dU} (h:nG N l out) (h2:2≤l.length):nG N (zY l) (CI l out):=by
 rcases h with ⟨h1,_⟩|⟨G,hG,p⟩
 ·omega
 have l1:=lJ (l:=l) (by omega);have p1:=Ac l1.1;have e1:(l.eraseIdx (cW l)).length=l.length-1:=List.length_eraseIdx_of_lt l1.1;have l2:=lJ (l:=l.eraseIdx (cW l)) (by omega);have p2:=Ac l2.1;obtain ⟨⟨a,da,ma⟩,R1,q1,ea,r1⟩:=CK (p.trans p1);obtain ⟨⟨b,db,mb⟩,R,q2,eb,r2⟩:=CK (r1.trans p2);simp only at ea eb;have hg:BS N out ((a,da,ma)::(b,db,mb)::R):=hG.perm (q1.trans (q2.cons _));have hall:∀x∈R,(x.1:dU)∈l.eraseIdx (cW l):=fun x hx=>p2.symm.subset (List.mem_cons_of_mem _ (r2.subset (List.mem_map.2 ⟨x,hx,rfl⟩)));have hbm:b∈l.eraseIdx (cW l):=p2.symm.subset (by rw[← eb];simp);have hj:=hg.join (fun x hx=>by rw[ea];exact l1.2 _ (List.mem_of_mem_eraseIdx (hall x hx))) (by rw[ea];exact l1.2 _ (List.mem_of_mem_eraseIdx hbm)) (fun x hx=>by rw[eb];exact l2.2 _ (hall x hx));refine .inr ⟨(sI a b,max da db+1,b.wt)::R,?_,?_⟩
 ·unfold CI
  rw[← ea,← eb];exact hj
 ·rw[List.map_cons]
  unfold zY;rw[← ea,← eb];exact (r2.cons _).trans (by
   have:=List.perm_append_singleton (sI a b) ((l.eraseIdx (cW l)).eraseIdx (cW (l.eraseIdx (cW l))));exact this.symm)
theorem nG.two {l:List dU} (h:nG N l out) (h2:2≤l.length):∀x∈l,1≤x.wt∧x.wt≤1000∧0≤x.num∧x.num<N∧x.ins.length≤N∧∀s∈x.ins,0≤s∧s<N:=by
 rcases h with ⟨h1,_⟩|⟨G,hG,p⟩
 ·omega
 intro x hx;obtain ⟨g,hg,rfl⟩:=List.mem_map.1 (p.symm.subset hx);have h1:=hG.one g hg;have hn:=hG.GK g hg;have hw:=(mm g.2.1).2;refine ⟨by omega,?_,hn.1,hn.2,?_,fun s hs=>⟨(h1.2.2 s hs).1,(h1.2.2 s hs).2.1⟩⟩
 ·refine Int.le_trans ?_ hG.sum
  obtain ⟨s,t,rfl⟩:=List.append_of_mem hg;have key:∀(G:List Ek),(∀x∈G,0≤x.1.wt)→0≤(G.map fun x=>x.1.wt).sum:=by
   intro G
   induction G with
   |nil=>intro _;simp
   |cons g G ih=>intro hg;have:=ih (fun x hx=>hg x (by simp[hx]));have:=hg g (by simp);simp only[List.map_cons,List.sum_cons];omega
  have tG:∀x∈s++g::t,0≤x.1.wt:=fun x hx=>by have:=(hG.one x hx).1;have:=(mm x.2.1).2;omega
  have k1:=key s (fun x hx=>tG x (by simp[hx]));have k2:=key t (fun x hx=>tG x (by simp[hx]));simp only[List.map_append,List.map_cons,List.sum_append,List.sum_cons];omega
 ·refine Nat.le_trans ?_ hG.tot
  obtain ⟨s,t,rfl⟩:=List.append_of_mem hg;simp only[List.map_append,List.map_cons,List.flatten_append,List.flatten_cons,List.length_append];omega
theorem jE (f:List Int):∀n,∀x∈bZ f n,∃i:Nat,i<n∧x=⟨(f[i]?).getD 0,(i:Nat),[(i:Nat)]⟩∧0<(f[i]?).getD 0
 |0,x,hx=>by simp[bZ] at hx
 |n+1,x,hx=>by
  rw[bZ,List.mem_append] at hx;rcases hx with hx|hx
  ·obtain ⟨i,hi,h⟩:=jE f n x hx;exact ⟨i,by omega,h⟩
  ·unfold sJ at hx
   split at hx
   ·rename_i hp
    simp only[List.mem_singleton] at hx;exact ⟨n,by omega,hx,hp⟩
   ·simp at hx
theorem xB (f:List Int):∀n,((bZ f n).map dU.ins).flatten.Nodup∧((bZ f n).map dU.ins).flatten.length≤n∧∀s∈((bZ f n).map dU.ins).flatten,0≤s∧s<n
 |0=>by simp[bZ]
 |n+1=>by
  obtain ⟨h1,h2,h3⟩:=xB f n;rw[bZ,List.map_append,List.flatten_append];have e:((sJ f n).map dU.ins).flatten=[]∨((sJ f n).map dU.ins).flatten=[(n:Int)]:=by
   unfold sJ;split
   ·right;simp
   ·left;rfl
  rcases e with e|e <;> rw[e]
  ·rw[List.append_nil];exact ⟨h1,by omega,fun s hs=>by have:=h3 s hs;omega⟩
  ·refine ⟨List.nodup_append.2 ⟨h1,by simp,fun a ha b hb=>?_⟩,by rw[List.length_append,List.length_singleton];omega,fun s hs=>?_⟩
   ·simp only[List.mem_singleton] at hb;subst hb
    have:=h3 a ha;omega
   ·rcases List.mem_append.1 hs with hs|hs
    ·have:=h3 s hs;omega
    ·simp only[List.mem_singleton] at hs;omega
theorem xC (f:List Int) (hf:∀x∈f,0≤x):∀n,n≤f.length→((bZ f n).map dU.wt).sum=(f.take n).sum
 |0,_=>by simp[bZ]
 |n+1,h=>by
  have ih:=xC f hf n (by omega);rw[bZ,List.map_append,List.sum_append,ih,List.take_add_one,List.sum_append];congr 1;unfold sJ;rw[List.getElem?_eq_getElem (by omega)];simp only[Option.getD_some,Option.toList]
  split
  ·simp
  ·have:=hf _ (List.getElem_mem (show n<f.length by omega))
   simp;omega
theorem CM {f:List Int} (hf:∀x∈f,0≤x) (hs:f.sum≤1000):nG f.length (bZ f f.length) (oV f (bZ f f.length)):=by
 obtain ⟨h1,h2,h3⟩:=xB f f.length;unfold oV;by_cases e:(bZ f f.length).length=1
 ·rw[if_pos e]
  refine .inl ⟨by omega,by simp,fun x hx=>?_⟩;rcases List.mem_or_eq_of_mem_set hx with hx|rfl
  ·have:=(List.mem_replicate.1 hx).2;omega
  ·omega
 ·rw[if_neg e]
  refine .inr ⟨(bZ f f.length).map fun t=>(t,0,0),?_,by rw[List.map_map];exact List.Perm.of_eq (by simp[Function.comp_def])⟩;have em:∀ {β:Type} (g:dU→β),((bZ f f.length).map fun t=>(t,0,0):List Ek).map (fun x=>g x.1)=(bZ f f.length).map g:=fun g=>by rw[List.map_map];rfl
  refine {len:=by simp,one:=?_,two:=?_,nodup:=by rw[em dU.ins];exact h1,sum:=by rw[em dU.wt,xC f hf _ aT,List.take_length];exact hs,rest:=?_,low:=?_,GK:=?_,tot:=by rw[em dU.ins];exact h2}
  ·intro x hx
   obtain ⟨t,ht,rfl⟩:=List.mem_map.1 hx;obtain ⟨i,hi,rfl,hp⟩:=jE f _ t ht;refine ⟨by show mO 1≤_;have:mO 1=1:=rfl;simp only;omega,by show mO 0≤0;decide,fun s hs=>?_⟩;simp only[List.mem_singleton] at hs;subst hs;refine ⟨by omega,by omega,?_⟩;simp[List.getElem?_replicate]
   split <;> simp
  ·rw[List.pairwise_map]
   refine List.Pairwise.imp_of_mem (R:=fun _ _=>True) (fun {a b} ha hb _=>?_) (List.pairwise_of_forall (fun _ _=>trivial));obtain ⟨i,_,rfl,h⟩:=jE f _ a ha;obtain ⟨j,_,rfl,h'⟩:=jE f _ b hb;exact ⟨by show (0:Int)≤(f[i]?).getD 0;omega,by show (0:Int)≤(f[j]?).getD 0;omega⟩
  ·intro s _
   rw[List.getElem?_replicate]
   split <;> simp
  ·intro x hx;have:=(List.mem_replicate.1 hx).2;omega
  ·intro x hx
   obtain ⟨t,ht,rfl⟩:=List.mem_map.1 hx;obtain ⟨i,hi,rfl,hp⟩:=jE f _ t ht;exact ⟨by simp,by simp;omega⟩
theorem xD {N:Nat}:∀(n:Nat) {l:List dU} {out:List Int},nG N l out→(oq n l out).length=N∧∀x∈oq n l out,0≤x∧x≤15
 |0,l,out,h=>h.small
 |n+1,l,out,h=>by
  unfold oq
  split
  ·rename_i h2;exact xD n (h.step h2)
  ·exact h.small
theorem xE {f:List Int} (hf:∀x∈f,0≤x) (hs:f.sum≤1000):∀x∈iO f,0≤x∧x≤15:=(xD _ (CM hf hs)).2
def jU (x:Int):Int:=if 0<x∧x<16 then ((2 ^ (15-x).toNat:Nat):Int) else 0
def iz (l:List Int):Int:=(l.map jU).sum
def iA (n:Int):List Int→Nat→List (Int×Int)→Int→List (Int×Int)×Int
 |[],_,out,next=>(out,next)
 |x::l,i,out,next=>if x=n then iA n l (i+1) (out.set i (n,next)) (next+1) else iA n l (i+1) out next
def k7 (l:List Int):Nat→Int→List (Int×Int)→Int→List (Int×Int)
 |0,_,out,_=>out
 |k+1,n,out,next=>k7 l k (n+1) (iA n l 0 out (2*next)).1 (iA n l 0 out (2*next)).2
def rP (l:List Int):Bool:=decide (l.length≤300)&&l.all (fun x=>decide (0≤x∧x≤15))&&decide (iz l≤32768)
def gK (l:List Int):Option (List (Int×Int)):=if rP l=true then some (k7 l 15 1 (List.replicate l.length (0,0)) 0) else none
theorem tI (n:Int):∀(l:List Int) (i:Nat) (out:List (Int×Int)) (next:Int),(iA n l i out next).1.length=out.length
 |[],_,_,_=>rfl
 |x::l,i,out,next=>by
  unfold iA
  split
  ·rw[tI n l,List.length_set]
  ·exact tI n l _ _ _
theorem AA (l:List Int):∀(k:Nat) (n:Int) (out:List (Int×Int)) (next:Int),(k7 l k n out next).length=out.length
 |0,_,_,_=>rfl
 |k+1,n,out,next=>by rw[k7,AA l k,tI]
theorem Kr {c:List (Int×Int)} (h:gK l=some c):c.length=l.length:=by
 unfold gK at h
 split at h
 ·cases h;rw[AA];simp
 ·cases h
def AB (M:Int) (out:List (Int×Int)):Prop:=∀x∈out,0≤x.1∧x.1≤15∧0≤x.2∧x.2≤M
theorem wj {n:Int} (hn:0≤n∧n≤15):∀(l:List Int) (i:Nat) (out:List (Int×Int)) (next M:Int),AB M out→0≤next→next+l.length≤M→AB M (iA n l i out next).1∧next≤(iA n l i out next).2∧(iA n l i out next).2≤next+l.length
 |[],_,out,next,M,h,_,_=>⟨h,Int.le_refl _,by simp[iA]⟩
 |x::l,i,out,next,M,h,h0,h1=>by
  rw[List.length_cons] at h1;unfold iA
  split
  ·have h2:AB M (out.set i (n,next)):=fun y hy=>by
    rcases List.mem_or_eq_of_mem_set hy with hy|rfl
    ·exact h y hy
    ·simp only;omega
   obtain ⟨k1,k2,k3⟩:=wj hn l (i+1) _ (next+1) M h2 (by omega) (by omega);exact ⟨k1,by omega,by rw[List.length_cons];omega⟩
  ·obtain ⟨k1,k2,k3⟩:=wj hn l (i+1) out next M h h0 (by omega)
   exact ⟨k1,k2,by rw[List.length_cons];omega⟩
def iP:Nat→Int
 |0=>0
 |n+1=>2*iP n+300
theorem wk:∀n,0≤iP n
 |0=>Int.le_refl _
 |n+1=>by have:=wk n;unfold iP;omega
theorem tJ {a b:Nat} (h:a≤b):iP a≤iP b:=by
 induction b with
 |zero=>
  have:a=0:=by omega
  subst this;exact Int.le_refl _
 |succ b ih=>
  by_cases e:a=b+1
  ·subst e;exact Int.le_refl _
  ·have h1:=ih (by omega);have h2:=wk b
   have h3:iP (b+1)=2*iP b+300:=rfl;omega
theorem C2 {l:List Int} (hl:l.length≤300):∀(k m:Nat) (out:List (Int×Int)) (next:Int),m+k=15→0≤next→next≤iP m→AB (iP 15) out→AB (iP 15) (k7 l k (m+1:Nat) out next)
 |0,_,out,_,_,_,_,h=>h
 |k+1,m,out,next,hm,h0,h1,h=>by have h15:=tJ (show m+1≤15 by omega);have e:iP (m+1)=2*iP m+300:=rfl;obtain ⟨k1,k2,k3⟩:=wj (n:=((m+1:Nat):Int)) ⟨by omega,by omega⟩ l 0 out (2*next) (iP 15) h (by omega) (by omega);rw[k7];exact C2 hl k (m+1) _ _ (by omega) (by omega) (by omega) k1
theorem N4 {c:List (Int×Int)} (h:gK l=some c):∀x∈c,0≤x.1∧x.1≤15∧0≤x.2∧x.2≤1000000000:=by
 unfold gK at h
 split at h
 ·rename_i hok
  cases h;unfold rP at hok;simp only[Bool.and_eq_true,decide_eq_true_eq] at hok;have:=C2 hok.1.1 15 0 (List.replicate l.length (0,0)) 0 (by omega) (Int.le_refl _) (Int.le_refl _) (fun x hx=>by
   have:=(List.mem_replicate.1 hx).2;subst this;exact ⟨by decide,by decide,by decide,wk 15⟩)
  have e:iP 15≤1000000000:=by decide
  exact fun x hx=>by have:=this x hx;omega
 ·cases h
def jV (l:List Int) (s:Int):Option (List Bool):=match gK l with
 |none=>none
 |some c=>if 0≤s∧s<l.length∧¬(l[s.toNat]?).getD 0=0 then sF [] ((c[s.toNat]?).getD (0,0)).2 ((c[s.toNat]?).getD (0,0)).1 else none
def gL (t:jL):Int:=if jR t=true then (if 0<t.len then 253+t.len else t.byte) else -1
theorem AD {t:jL} (h:jR t=true):0≤gL t∧gL t≤271:=by
 unfold gL;rw[if_pos h];rcases qB h with ⟨h1,h2,h3,h4⟩|⟨h1,h2,h3,h4,h5⟩
 ·rw[if_neg (by omega)];omega
 ·rw[if_pos (by omega)];omega
def jW (l:List jL):List Int:=l.foldl (fun f t=>fV f (gL t)) (List.replicate 272 0)
def yU (n:List Int) (i:Nat):List Bool:=if 0<(n[i]?).getD 0 then bitsOf i 9++bitsOf ((n[i]?).getD 0).toNat 4 else []
def mZ (n:List Int):Nat→List Bool
 |0=>[]
 |i+1=>mZ n i++yU n i
def uM (n:List Int):Nat→Nat
 |0=>0
 |i+1=>uM n i+if 0<(n[i]?).getD 0 then 1 else 0
def N5 (n:List Int) (t:jL):List Bool:=(jV n (gL t)).getD []++if 0<t.len then bitsOf t.yy.toNat 8 else []
def gG (n:List Int) (l:List jL):List Bool:=(l.map (N5 n)).flatten
def jr (l:List jL):Option (List Bool):=if l.length≤1000∧l.all jR=true then some (bitsOf (uM (iO (jW l)) 272) 9++mZ (iO (jW l)) 272++gG (iO (jW l)) l) else none
def N6 (s:List UInt8):List UInt8:=Gi ((jr (eG s 0)).getD [])
def Ex (s:List UInt8):List UInt8×Bool×Bool:=if s.length=256 then (if (N6 s).length<256 then (N6 s,true,true) else (s,false,true)) else ([],false,false)
end Go.Proofs.YtbigkioechkngaaGreat
namespace Go.Proofs.YtbigkioechkngaaGreat
open Go.RowKit Tryz
def o7 (B n:Nat) (v:Value) (ys:List Value) (w:World) (e:Ending) (w':World):Prop:=
 ∃v',e=.returned v'∧w'.ownsRow B 52 4 v' (n+1) ys∧w.grownBy w' v.ownBlock
theorem AX (B n nb:Nat) (v:Value) (xs news:List Value) (w:World) (hown:w.ownsRow B 52 4 v n xs) (kL:w.heap[nb]?=some (.cells news.toArray 52 (0,0))) (rM:news.length=4) (h1:∀u∈news,u.oneCell'=true) (hn:n≤1000000) (hB:B≤w.heap.size) :
 Calls prog 127 #[v,.int .i64 n,.slice (some ⟨nb,0,none⟩) 1 1] w (o7 B n v (xs++news) w):=by
 have hx:∀j u,news[j]?=some u→w.cell? ((⟨nb,0,none⟩:Addr).add j)=some u:=by intro j u hu;rw[jM];simp[World.cell?,kL,hu]
 have HX:=aa hx;have HN:=aa hn;have HO:=aa hown;have H1:=aa h1;have HL:=aa rM;have HB:=aa hB;have ZO:=aJ hown;have X4:∀g cap,v=.slice (some ⟨g,0,none⟩) n cap→n≤cap∧cap≤9223372036854775807:=by intro g cap e;subst e;obtain ⟨_,_,_,h4,h5,_⟩:=bl hown;unfold maxLen at h5;exact ⟨h4,by omega⟩
 obtain ⟨i0,hi,hz0,hz1,hz2⟩:=info_parts qM;have arY:n≤9223372036854775807:=by omega
 clear hx hown h1 rM kL hB hn;rcases ZO with ⟨rfl,rfl,rfl⟩|⟨g,cap,rfl⟩
 ·go_enter func127,ntmps127
  go_wp2_with (at_builtin;refine wpList_append_own _ rfl _ _ 45 rfl B 52 i0 (.agg #[.int .i64 0,.int .i64 0,.int .i64 0,.bool false]) 4 32 underlying45 hi hz0 hz1 hz2 rfl (by decide) _ 0 [] rfl HO.o ⟨nb,0,none⟩ 1 1 news rfl HL.o HX.o H1.o ?_ ?_ HB.o ?_)
  ·unfold maxLen;omega
  ·omega
  ·intro v' w1 hown hg _
   have LS:=aa hown;have HG:=aa hg;clear hown hg;go_wp2_with fail;go_ret;exact ⟨v',rfl,LS.o,HG.o⟩
 ·obtain ⟨c1,c2⟩:=X4 g cap rfl
  have WX:(n:Int)≤(n:Int):=Int.le_refl _;clear X4;by_cases QL:n=cap
  ·subst QL
   go_enter func127,ntmps127;go_wp2_with (at_builtin;refine wpList_append_own _ rfl _ _ 45 rfl B 52 i0 (.agg #[.int .i64 0,.int .i64 0,.int .i64 0,.bool false]) 4 32 underlying45 hi hz0 hz1 hz2 rfl (by decide) _ n xs rfl HO.o ⟨nb,0,none⟩ 1 1 news rfl HL.o HX.o H1.o ?_ ?_ HB.o ?_)
   ·have:=HN.o;unfold maxLen;omega
   ·have:=HN.o;omega
   ·intro v' w1 hown hg _
    have LS:=aa hown;have HG:=aa hg;clear hown hg;go_wp2_with fail;go_ret;exact ⟨v',rfl,LS,HG⟩
  ·go_enter func127,ntmps127
   go_wp2_with (at_builtin;refine wpList_append_own _ rfl _ _ 45 rfl B 52 i0 (.agg #[.int .i64 0,.int .i64 0,.int .i64 0,.bool false]) 4 32 underlying45 hi hz0 hz1 hz2 rfl (by decide) _ n xs rfl HO.o ⟨nb,0,none⟩ 1 1 news rfl HL.o HX.o H1.o ?_ ?_ HB.o ?_)
   ·have:=HN.o;unfold maxLen;omega
   ·have:=HN.o;omega
   ·intro v' w1 hown hg _
    have LS:=aa hown;have HG:=aa hg;clear hown hg;go_wp2_with fail;go_ret;exact ⟨v',rfl,LS.o,HG.o⟩
theorem yI (B n i nb g cap:Nat) (xs news:List Value) (w:World) (hown:w.ownsRow B 52 4 (.slice (some ⟨g,0,none⟩) n cap) n xs) (kL:w.heap[nb]?=some (.cells news.toArray 52 (0,0))) (rM:news.length=4) (h1:∀u∈news,u.oneCell'=true) (hx1:∀u∈xs,u.oneCell'=true) (hn:n≤1000000) (hB:B≤w.heap.size) (hi:i<n) (hc:cap<n+1) :
 Calls prog 127 #[.slice (some ⟨g,0,none⟩) n cap,.int .i64 i,.slice (some ⟨nb,0,none⟩) 1 1] w (o7 B n (.slice (some ⟨g,0,none⟩) n cap) (xs.take (i*4)++news++xs.drop (i*4)) w):=by
 obtain ⟨cur,hg,ZP,Uc,_,hsz,AY⟩:=bl hown;obtain ⟨i0,iM,hz0,hz1,hz2⟩:=info_parts qM;have K2:(prog.info? 52).map (·.size)=some 4:=by rw[iM];simp[hz1]
 obtain rfl:n=cap:=by omega
 have tZ:=hown.1;have k8:∀j u,xs[j]?=some u→w.cell? ⟨g,j,none⟩=some u:=fun j u hu=>by have:=hown.cells (g:=g) rfl j u hu;rwa [jM] at this
 have hkk:(n:Int)+1-(i:Int)=((n+1-i:Nat):Int):=by omega
 have hik:i+(n+1-i)=n+1:=by omega
 have U2:g<w.heap.size:=(Array.getElem?_eq_some_iff.1 hg).1;have hnw:nb<w.heap.size:=(Array.getElem?_eq_some_iff.1 kL).1;have hold:(Builtin.firstCells i0.size i (.slice (some ⟨g,0,none⟩) i n)).run prog w.drew=.ok (xs.take (i*4)).toArray w.drew:=by
  rw[hz1];exact run_firstCells_some w.drew 4 i ⟨g,0,none⟩ i n (xs.take (i*4)) (by rw[List.length_take,tZ];omega) (fun j v hj=>by
   rw[jM];rw[List.getElem?_take] at hj
   split at hj
   ·exact k8 j v hj
   ·cases hj)
 obtain ⟨G,hG⟩:∃G,G=grownCap w (n+1) n 52:=⟨_,rfl⟩
 obtain ⟨ROW,Wj⟩:∃ROW:Array Value,ROW=(xs.take (i*4)).toArray++Builtin.zeroCells (.agg #[.int .i64 0,.int .i64 0,.int .i64 0,.bool false]:Value).cells (n+1-i)++Builtin.zeroCells (.agg #[.int .i64 0,.int .i64 0,.int .i64 0,.bool false]:Value).cells (G-(n+1)):=⟨_,rfl⟩
 have hrz:∀ty,(Builtin.append_ #[45,3] ty #[.slice (some ⟨g,0,none⟩) i n,.int .i64 ((n:Int)+1-(i:Int))]).run prog w =
  .ok (.slice (some ⟨w.heap.size,0,none⟩) (n+1) G) (w.drew.alloc (.cells ROW 52)):=fun ty=>by
  have h:=Lib.run_append_grow_zeros w 45 3 ty 52 i0 _ .i64 .i64 underlying45 underlying3 iM hz0 (some ⟨g,0,none⟩) i n (xs.take (i*4)) hold (n+1-i) (by omega) (by rw[hz1];decide) (by omega) (by omega) (by rw[hz2];omega) (by rw[hz2,hik];exact growslice_fits (by omega) (by omega));rw[hik,← hG,← Wj] at h;rw[hkk];exact h
 have hGn:n+1≤G:=by rw[hG];exact grownCap_ge w _ _ _
 have ZQ:G≤maxLen:=by rw[hG];exact grownCap_le_maxLen w (n+1) n 52 (by unfold maxLen;omega)
 have hRl:ROW.size=G*4:=by have hz:(.agg #[.int .i64 0,.int .i64 0,.int .i64 0,.bool false]:Value).cells.size=4:=rfl;rw[Wj,Array.size_append,Array.size_append,size_zeroCells,size_zeroCells,hz,List.size_toArray,List.length_take,tZ];omega
 have hRt:ROW.toList.take (i*4)=xs.take (i*4):=by rw[Wj,Array.append_assoc,Array.toList_append,List.take_append_of_le_length (by simp[tZ];omega)];simp only[List.take_take,Nat.min_self]
 obtain ⟨A2,K3⟩:∃A2:Array Value,A2=(ROW.toList.take (i*4)++news++ROW.toList.drop (i*4+news.length)).toArray:=⟨_,rfl⟩
 have B1:A2.size=G*4:=by
  have:ROW.toList.length=G*4:=by simp[hRl]
  rw[K3,List.size_toArray,List.length_append,List.length_append,List.length_take,List.length_drop,this,rM];omega
 have IC:A2.toList.take ((i+1)*4)=xs.take (i*4)++news:=by
  have:(xs.take (i*4)++news).length=(i+1)*4:=by rw[List.length_append,List.length_take,tZ,rM];omega
  rw[K3,hRt,List.toList_toArray,List.take_append_of_le_length (by omega),List.take_of_length_le (by omega)]
 obtain ⟨A3,TT⟩:∃A3:Array Value,A3=(A2.toList.take ((i+1)*4)++xs.drop (i*4)++A2.toList.drop ((i+1)*4+(xs.drop (i*4)).length)).toArray:=⟨_,rfl⟩
 have wW:(xs.drop (i*4)).length=(n-i)*4:=by rw[List.length_drop,tZ];omega
 have SY:A3.size=G*4:=by
  have:A2.toList.length=G*4:=by simp[B1]
  rw[TT,List.size_toArray,List.length_append,List.length_append,List.length_take,wW,List.length_drop,this];omega
 have SZ:A3.toList.take ((n+1)*4)=xs.take (i*4)++news++xs.drop (i*4):=by
  have:(xs.take (i*4)++news++xs.drop (i*4)).length=(n+1)*4:=by rw[List.length_append,List.length_append,List.length_take,tZ,rM,wW];omega
  rw[TT,IC,List.toList_toArray,List.take_append_of_le_length (by omega),List.take_of_length_le (by omega)]
 have S0:∀W:World,W.heap=(w.alloc (.cells ROW 52)).heap→∀ty dc,(Builtin.copy_ #[45,45] ty #[.slice (some ⟨w.heap.size,i*4,none⟩) (n+1-i) dc,.slice (some ⟨nb,0,none⟩) 1 1]).run prog W=.ok (goInt 1) (W.setRow w.heap.size A2):=by
  intro W hW ty dc;have:=oJ (P:=prog) W 45 45 ty 52 4 w.heap.size (i*4) (n+1-i) dc ⟨nb,0,none⟩ 1 1 1 ROW 52 news underlying45 K2 (by rw[hW];exact World.alloc_heap_new w _) (by simp only[Nat.min_def];split <;> omega) (by omega)
   (fun j v hj=>by rw[jM];simp only[World.cell?,hW];rw[Below.heap_alloc w _ _ hnw,kL];simpa using hj) (by rw[hRl,rM];omega) h1
  rw[← K3] at this;exact this
 have S1:∀W:World,W.heap=((w.alloc (.cells ROW 52)).setRow w.heap.size A2).heap→∀ty dc sc,(Builtin.copy_ #[45,45] ty #[.slice (some ⟨w.heap.size,(i+1)*4,none⟩) (n-i) dc,.slice (some ⟨g,i*4,none⟩) (n-i) sc]).run prog W=.ok (goInt (n-i:Nat)) (W.setRow w.heap.size A3):=by
  intro W hW ty dc sc;have:=oJ (P:=prog) W 45 45 ty 52 4 w.heap.size ((i+1)*4) (n-i) dc ⟨g,i*4,none⟩ (n-i) sc (n-i) A2 52 (xs.drop (i*4)) underlying45 K2 (by rw[hW];exact setRow_heap _ _ _ _ _ _ (World.alloc_heap_new w _)) (by simp only[Nat.min_def];split <;> omega) wW
   (fun j v hj=>by
    rw[nA];simp only[World.cell?,hW];rw[setRow_other _ _ _ _ (by omega),Below.heap_alloc w _ _ U2];have:=k8 (i*4+j) v (by rwa [List.getElem?_drop] at hj)
    simpa [World.cell?] using this) (by rw[B1,wW];omega) (fun v hv=>hx1 v (List.mem_of_mem_drop hv))
  rw[← TT] at this;exact this
 have Zp:=aa hrz;have OV:=aa S0;have Fj:=aa S1;have ZR:=aa SY;have ZT:=aa SZ;have HGM:=aa ZQ;have anY:G≤9223372036854775807:=by unfold maxLen at ZQ;omega
 have wM:=aa (show B≤w.heap.size∧g<w.heap.size∧n+1≤G from ⟨hB,U2,hGn⟩);have Dg:=aa (show (xs.take (i*4)++news++xs.drop (i*4)).length=(n+1)*4 by rw[List.length_append,List.length_append,List.length_take,tZ,rM,wW];omega);have hGi:¬(G=i):=by omega
 have akw:¬(G=i+1):=by omega
 have hci:¬(n=i):=by omega
 have pM:i≤n:=by omega
 have hii:(i:Int)<(n:Int):=by omega
 have hz2:¬((i:Int)=(n:Int)):=by omega
 have hz3:(n:Int)<(n:Int)+1:=by omega
 have afh:(n:Int)≤4611686018427387904:=by omega
 clear S0 S1 hrz SY SZ TT K3 B1 IC Wj hRl hRt hold k8 hG ZQ hx1 h1 rM hown kL hg tZ wW iM hz0 hz1 hz2 K2 hsz AY hik hkk hn hB ZP U2 hnw hGn hc;go_enter func127,ntmps127;go_wp2_with (at_builtin;refine Lib.wpList_append_run _ rfl _ _ _ _ rfl _ _ rfl rfl _ _ (Zp.o _) ?_);rw[OV.o (w.alloc (.cells ROW 52)).drew rfl];go_wp2_with fail;have TU:=Fj.o ((w.alloc (.cells ROW 52)).drew.setRow w.heap.size A2).drew rfl;go_region;go_wp2_with fail;go_ret;refine ⟨.slice (some ⟨w.heap.size,0,none⟩) (n+1) G,rfl,⟨Dg.out,.inr ⟨w.heap.size,G,A3,rfl,wM.out.1,?_,wM.out.2.2,HGM,ZR,ZT⟩⟩,?_⟩
 ·exact setRow_heap _ _ _ _ _ _ (setRow_heap _ _ _ _ _ _ (World.alloc_heap_new w _))
 ·exact aS (below_setRow ((below_setRow (((Below.refl w.heap.size w).alloc aT (.cells ROW 52)).drew) aT _).drew) aT _) _
theorem wN (B n i nb g cap:Nat) (xs news:List Value) (w:World) (hown:w.ownsRow B 52 4 (.slice (some ⟨g,0,none⟩) n cap) n xs) (kL:w.heap[nb]?=some (.cells news.toArray 52 (0,0))) (hne:nb≠g) (rM:news.length=4) (h1:∀u∈news,u.oneCell'=true) (hx1:∀u∈xs,u.oneCell'=true) (hn:n≤1000000) (hi:i<n) (hc:n+1≤cap) :
 Calls prog 127 #[.slice (some ⟨g,0,none⟩) n cap,.int .i64 i,.slice (some ⟨nb,0,none⟩) 1 1] w (o7 B n (.slice (some ⟨g,0,none⟩) n cap) (xs.take (i*4)++news++xs.drop (i*4)) w):=by
 obtain ⟨cur,hg,ZP,Uc,hcm,hsz,AY⟩:=bl hown;obtain ⟨i0,iM,hz0,hz1,hz2⟩:=info_parts qM;have K2:(prog.info? 52).map (·.size)=some 4:=by rw[iM];simp[hz1]
 have tZ:=hown.1;have k8:∀j u,xs[j]?=some u→w.cell? ⟨g,j,none⟩=some u:=fun j u hu=>by have:=hown.cells (g:=g) rfl j u hu;rwa [jM] at this
 have wW:(xs.drop (i*4)).length=(n-i)*4:=by rw[List.length_drop,tZ];omega
 obtain ⟨A2,K3⟩:∃A2:Array Value,A2=(cur.toList.take ((i+1)*4)++xs.drop (i*4)++cur.toList.drop ((i+1)*4+(xs.drop (i*4)).length)).toArray:=⟨_,rfl⟩
 have qC:cur.toList.length=cap*4:=by simp[hsz]
 have B1:A2.size=cap*4:=by rw[K3,List.size_toArray,List.length_append,List.length_append,List.length_take,wW,List.length_drop,qC];omega
 obtain ⟨A3,TT⟩:∃A3:Array Value,A3=(A2.toList.take (i*4)++news++A2.toList.drop (i*4+news.length)).toArray:=⟨_,rfl⟩
 have SY:A3.size=cap*4:=by
  have:A2.toList.length=cap*4:=by simp[B1]
  rw[TT,List.size_toArray,List.length_append,List.length_append,List.length_take,List.length_drop,this,rM];omega
 have IC:A2.toList.take (i*4)=xs.take (i*4):=by rw[K3,List.toList_toArray,List.append_assoc,List.take_append_of_le_length (by rw[List.length_take,qC];omega),List.take_take,← AY,List.take_take];congr 1;omega
 have afi:(A2.toList.drop (i*4+news.length)).take ((n-i)*4)=xs.drop (i*4):=by
  have e:i*4+news.length=(i+1)*4:=by rw[rM];omega
  rw[K3,List.toList_toArray,List.append_assoc,e,List.drop_append_of_le_length (by rw[List.length_take,qC];omega)];rw[List.drop_of_length_le (by rw[List.length_take];omega),List.nil_append,List.take_append_of_le_length (by omega),List.take_of_length_le (by omega)]
 have SZ:A3.toList.take ((n+1)*4)=xs.take (i*4)++news++xs.drop (i*4):=by
  rw[TT,List.toList_toArray,IC,List.take_append,← afi];have e2:(xs.take (i*4)++news).length=(i+1)*4:=by rw[List.length_append,List.length_take,tZ,rM];omega
  rw[List.take_of_length_le (by omega),e2];congr 2;omega
 have S0:∀W:World,W.heap=w.heap→∀ty dc sc,(Builtin.copy_ #[45,45] ty #[.slice (some ⟨g,(i+1)*4,none⟩) (n-i) dc,.slice (some ⟨g,i*4,none⟩) (n+1-i) sc]).run prog W=.ok (goInt (n-i:Nat)) (W.setRow g A2):=by
  intro W hW ty dc sc;have:=oJ (P:=prog) W 45 45 ty 52 4 g ((i+1)*4) (n-i) dc ⟨g,i*4,none⟩ (n+1-i) sc (n-i) cur 52 (xs.drop (i*4)) underlying45 K2 (by rw[hW];exact hg) (by simp only[Nat.min_def];split <;> omega) wW
   (fun j v hj=>by
    rw[nA];simp only[World.cell?,hW];have:=k8 (i*4+j) v (by rwa [List.getElem?_drop] at hj)
    simpa [World.cell?] using this) (by rw[hsz,wW];omega) (fun v hv=>hx1 v (List.mem_of_mem_drop hv))
  rw[← K3] at this;exact this
 have S1:∀W:World,W.heap=(w.setRow g A2).heap→∀ty dc,(Builtin.copy_ #[45,45] ty #[.slice (some ⟨g,i*4,none⟩) (n+1-i) dc,.slice (some ⟨nb,0,none⟩) 1 1]).run prog W=.ok (goInt 1) (W.setRow g A3):=by
  intro W hW ty dc;have:=oJ (P:=prog) W 45 45 ty 52 4 g (i*4) (n+1-i) dc ⟨nb,0,none⟩ 1 1 1 A2 52 news underlying45 K2 (by rw[hW];exact setRow_heap _ _ _ _ _ _ hg) (by simp only[Nat.min_def];split <;> omega) (by omega)
   (fun j v hj=>by rw[jM];simp only[World.cell?,hW];rw[setRow_other _ _ _ _ hne,kL];simpa using hj) (by rw[B1,rM];omega) h1
  rw[← TT] at this;exact this
 have akx:news.toArray.size=4:=by rw[List.size_toArray];exact rM
 have hov:∀lb cb,(callFunc 163 #[.slice (some ⟨nb,0,none⟩) 1 1,.slice (some ⟨g,(i+1)*4,none⟩) lb cb]).run prog w=.ok (.value (.bool false)) w:=fun lb cb=>by
  rw[run_callFunc_extern func163 (by kernel_rfl) (by kernel_rfl) (by kernel_rfl) (e:=Extern.SlicesOverlaps.overlaps #[45,45] #[4]) (by kernel_rfl),
   Lib.run_overlaps_apart w 45 4 52 underlying45 4 (fun w=>by simp[sizeOf,typeInfo,iM,hz1]) ⟨nb,0,none⟩ ⟨g,(i+1)*4,none⟩ 1 1 lb cb hne 52 52 4 (cap*4) (by simp[World.shape?,kL,rM]) (by simp[World.shape?,hg,hsz]) (by omega) (by simp[World.frozen?,kL]) (by simp[World.frozen?,kL])]
  rfl
 have hA:=S0 w.drew rfl;have Fj:=aa S1;have ZR:=aa SY;have ZT:=aa SZ;have HG:=aa hg;have Dg:=aa (show (xs.take (i*4)++news++xs.drop (i*4)).length=(n+1)*4 by rw[List.length_append,List.length_append,List.length_take,tZ,rM,wW];omega);have wM:=aa (And.intro ZP (And.intro hc hcm));have hz2:¬((i:Int)=(n:Int)):=by omega
 have hz3:¬(cap:Int)<(n:Int)+1:=by omega
 have afh:(n:Int)≤4611686018427387904:=by omega
 have aky:cap≤9223372036854775807:=by unfold maxLen at hcm;omega
 have hGi:¬(cap=i):=by omega
 have akw:¬(cap=i+1):=by omega
 have pM:i≤n:=by omega
 have hii:(i:Int)<(n:Int):=by omega
 have hcc:(n:Int)+1≤(cap:Int):=by omega
 clear S0 S1 SY SZ TT K3 B1 IC afi k8 hx1 h1 rM hown kL hg tZ wW iM hz0 hz1 hz2 K2 hsz AY hn ZP hc qC hcm akx hne;go_enter func127,ntmps127;go_wp2_with (simp only[hov]);go_region;go_wp2_with fail;rw[Fj.o (w.drew.setRow g A2) rfl];go_wp2_with fail;go_ret;refine ⟨.slice (some ⟨g,0,none⟩) (n+1) cap,rfl,⟨Dg.out,.inr ⟨g,cap,A3,rfl,wM.out.1,?_,wM.out.2.1,wM.out.2.2,ZR,ZT⟩⟩,?_⟩
 ·exact setRow_heap _ _ _ _ _ _ (setRow_heap _ _ _ _ _ _ HG)
 ·exact aW (aW (sU (ko w _) 1) (iE _ g _)) (iE _ g _)
theorem qN (B n i nb:Nat) (v:Value) (xs news:List Value) (w:World) (hown:w.ownsRow B 52 4 v n xs) (kL:w.heap[nb]?=some (.cells news.toArray 52 (0,0))) (hne:v.ownBlock≠some nb) (rM:news.length=4) (h1:∀u∈news,u.oneCell'=true) (hx1:∀u∈xs,u.oneCell'=true) (hn:n≤1000000) (hB:B≤w.heap.size) (hi:i≤n) :
 Calls prog 127 #[v,.int .i64 i,.slice (some ⟨nb,0,none⟩) 1 1] w (o7 B n v (xs.take (i*4)++news++xs.drop (i*4)) w):=by
 by_cases pM:i=n
 ·subst pM
  have e1:xs.take (i*4)=xs:=List.take_of_length_le (by rw[hown.1];exact aT);have e2:xs.drop (i*4)=[]:=List.drop_of_length_le (by rw[hown.1];exact aT);rw[e1,e2,List.append_nil];exact AX B i nb v xs news w hown kL rM h1 hn hB
 ·rcases aJ hown with ⟨_,XN,_⟩|⟨g,cap,rfl⟩
  ·omega
  ·by_cases hc:n+1≤cap
   ·exact wN B n i nb g cap xs news w hown kL (fun e=>hne (by rw[e];rfl)) rM h1 hx1 hn (by omega) hc
   ·exact yI B n i nb g cap xs news w hown kL rM h1 hx1 hn hB (by omega) (by omega)
theorem OW:(prog.info? 4).map (fun i=>(i.zero,i.size,i.bytes))=some (some (.bool false),1,1):=by kernel_rfl
theorem qO (p:Option Addr) (n c:Nat) (xs:List Value) (w:World) (hs:iK w p n 1 xs) (hn:n≤1000000000) :
 Calls prog 70 #[.slice p n c] w fun e w'=>∃v',e=.returned v'∧w'.ownsRow w.heap.size 4 1 v' n xs∧Bw w w':=by
 obtain ⟨hl,hnil,h1,hx⟩:=hs;cases p with
 |none=>have hq:∀w:World,(binOp .eql 24 (.slice none 0 c) (.slice none 0 0)).run prog w=.ok (.bool true) w:=fun w=>Lib.run_eql_slice_nil w 24 4 none 0 c 0 0 underlying24;obtain rfl:=hnil rfl;obtain rfl:xs=[]:=List.eq_nil_of_length_eq_zero (by rw[hl,Nat.zero_mul]);clear hnil hx h1 hl hn;go_enter func70,ntmps70;go_wp2_with fail;go_ret;exact ⟨_,rfl,World.ownsRow_nil _ _ _ _,aH⟩
 |some a=>
  have HX:=aa (hx a rfl);have HL:=aa hl;have H1:=aa h1;have HN:=aa hn;clear hnil hx h1 hl hn;have hq:∀w:World,(binOp .eql 24 (.slice (some a) n c) (.slice none 0 0)).run prog w=.ok (.bool false) w:=fun w=>Lib.run_eql_slice_nil w 24 4 (some a) n c 0 0 underlying24;obtain ⟨i0,hi,hz0,hz1,hz2⟩:=info_parts OW;have HB:=aa (((Below.refl w.heap.size w).alloc aT (.cells #[] 4)));go_enter func70,ntmps70;go_wp2_with (at_builtin;refine wpList_append_own _ rfl _ _ 24 rfl w.heap.size 4 i0 (.bool false) 1 1 underlying24 hi hz0 hz1 hz2 rfl (by decide) _ 0 [] rfl (World.ownsRow_made w #[] 0 aT (by unfold maxLen;omega) rfl) a n c xs rfl ?_ ?_ ?_ ?_ ?_ ?_ ?_)
  ·exact HL.o
  ·intro j u hu;exact cell_later HB (HX j u hu)
  ·exact H1.o
  ·have:=HN.o;unfold maxLen;omega
  ·have:=HN.o;omega
  ·simp
  ·intro v' w1 hown hg _
   have HO:=aa hown;have HG:=aa hg;clear hown hg;go_wp2_with fail;go_ret;exact ⟨v',rfl,by simpa using HO.o,HB.grown HG (by simp) (fun k e=>by simp[Value.ownBlock] at e;omega)⟩
end Go.Proofs.YtbigkioechkngaaGreat
namespace Go.Proofs.YtbigkioechkngaaGreat
open Go.RowKit Go.Shelf
open Tryz
variable {k:Int}{f:Int→Option aB}{b n:Nat}{W:World}
def Wl:Value→Option (DataW Unit×List MemPlace)
 |.agg a=>match a.toList with
  |[.int .i64 c,.int .i64 p,.int .i64 s,.bool b]=>some (.agg [.lit (.int .i64 c),.lit (.int .i64 p),.lit (.int .i64 s),.lit (.bool b)],[])
  |_=>none
 |_=>none
def A5 (x:aB):DataW Unit:=.agg [.lit (.int .i64 x.chunk),.lit (.int .i64 x.pos),.lit (.int .i64 x.size),.lit (.bool x.packed)]
theorem EH (x:aB):Wl x.agg=some (A5 x,[]):=rfl
theorem IE {v:Value} {x:aB} {ps:List MemPlace} (h:Wl v=some (A5 x,ps)):v=x.agg:=by
 unfold Wl at h
 split at h
 ·rename_i a
  split at h
  ·rename_i c p s b hl
   unfold A5 at h;simp only[Option.some.injEq,Prod.mk.injEq,DataW.agg.injEq,List.cons.injEq,DataW.lit.injEq,Lit.int.injEq,Lit.bool.injEq,true_and,and_true] at h;obtain ⟨⟨h1,h2,h3,h4⟩,_⟩:=h;subst h1;subst h2;subst h3;subst h4;unfold aB.agg;congr 1;exact Array.toList_inj.1 (by rw[hl])
  ·cases h
 ·cases h
def js (W:World) (b n:Nat) (f:Int→Option aB):Prop:=
 ∃D:DataW Unit,W.ownsMap prog 3 Wl b n D∧Maps.IsMap D ∧
  (∀k,aQ k→D.atKey (.int .i64 k) (A5 aB.zero)=A5 ((f k).getD aB.zero))∧∀k,aQ k→Maps.has D (.int .i64 k)=(f k).isSome
def qP (f:Int→Option aB) (k:Int) (x:aB):Int→Option aB:=fun q=>if q=k then some x else f q
theorem js.new (W:World):js (W.alloc (.map #[] 0)) W.heap.size 0 (fun _=>none):=
 ⟨.map [],World.ownsMap_made W prog 3 _,Maps.isMap_empty,fun k _=>by simp[DataW.atKey],fun k _=>by simp[Maps.has]⟩
theorem js.kept {W':World} {row:Option Nat} (h:js W b n f) (hg:W.grownBy W' row) (hne:some b≠row):js W' b n f:=by obtain ⟨D,h1,h2⟩:=h;exact ⟨D,h1.kept hg hne,h2⟩
theorem js.lt (h:js W b n f):b<W.heap.size:=by obtain ⟨D,h1,_⟩:=h;exact h1.lt
theorem js.below {W':World} (h:js W b n f) (hb:Bw W W'):js W' b n f:=by have hlt:=h.lt;obtain ⟨D,⟨es,clock,h1,h2⟩,h3⟩:=h;exact ⟨D,⟨es,clock,(hb.block b hlt).trans h1,h2⟩,h3⟩
theorem IG (w:World):(zeroValue 50).run prog w=.ok aB.zero.agg w:=by kernel_rfl
theorem js.look (h:js W b n f) (hk:aQ k):(Instr.lookup 58 (.map (some b)) (.int .i64 k) true).run prog W=.ok (.tuple #[((f k).getD aB.zero).agg,.bool (f k).isSome]) W:=by obtain ⟨D,h1,h2,h3,h4⟩:=h;obtain ⟨v,ps,hr,hv⟩:=h1.look_ok (Maps.int_keyed underlying3) underlying58 (IG W) (EH aB.zero) (Maps.keyOf_int_mk underlying3 (Eg hk));rw[h3 k hk] at hv;rw[h4 k hk] at hr;rw[IE hv] at hr;exact hr
theorem js.get (h:js W b n f) (hk:aQ k):(Instr.lookup 58 (.map (some b)) (.int .i64 k) false).run prog W=.ok ((f k).getD aB.zero).agg W:=by obtain ⟨D,h1,h2,h3,h4⟩:=h;obtain ⟨v,ps,hr,hv⟩:=h1.lookup (Maps.int_keyed underlying3) underlying58 (IG W) (EH aB.zero) (Maps.keyOf_int_mk underlying3 (Eg hk));rw[h3 k hk] at hv;rw[IE hv] at hr;exact hr
theorem js.put (h:js W b n f) (hk:aQ k) (x:aB) (hn:n≤1000000):∃w',(Instr.mapUpdate 58 (.map (some b)) (.int .i64 k) x.agg).run prog W=.ok () w'∧js w' b (n+1) (qP f k x)∧W.grownBy w' (some b):=by
 obtain ⟨D,h1,h2,h3,h4⟩:=h;obtain ⟨w',r1,r2,r3⟩:=h1.update (Maps.int_keyed underlying3) underlying58 (by unfold maxLen;omega) (Maps.keyOf_int_mk underlying3 (Eg hk)) (EH x);refine ⟨w',r1,⟨_,r2,h2.put _ _,fun q hq=>?_,fun q hq=>?_⟩,r3⟩
 ·unfold qP
  by_cases e:q=k
  ·subst e
   rw[Maps.atKey_put_same h2 (uA q),if_pos rfl];rfl
  ·rw[Maps.atKey_put_other (fun h=>e (by injection h)),h3 q hq,if_neg e]
 ·unfold qP
  by_cases e:q=k
  ·subst e
   rw[Maps.has_put_same h2 (uA q),if_pos rfl];rfl
  ·rw[Maps.has_put_other (fun h=>e (by injection h)),h4 q hq,if_neg e]
end Go.Proofs.YtbigkioechkngaaGreat
namespace Go.Proofs.YtbigkioechkngaaGreat
open Go.RowKit Tryz
theorem aay:(prog.info? 3).map (fun i=>(i.zero,i.size,i.bytes))=some (some (.int .i64 0),1,8):=by kernel_rfl
theorem yb (p:Option Addr) (n c:Nat) (xs:List Value) (w:World) (hs:iK w p n 1 xs) (hn:n≤1000000000) :
 Calls prog 121 #[.slice p n c] w fun e w'=>∃v',e=.returned v'∧w'.ownsRow w.heap.size 3 1 v' n xs∧Bw w w':=by
 obtain ⟨hl,hnil,h1,hx⟩:=hs;cases p with
 |none=>have hq:∀w:World,(binOp .eql 70 (.slice none 0 c) (.slice none 0 0)).run prog w=.ok (.bool true) w:=fun w=>Lib.run_eql_slice_nil w 70 3 none 0 c 0 0 underlying70;obtain rfl:=hnil rfl;obtain rfl:xs=[]:=List.eq_nil_of_length_eq_zero (by rw[hl,Nat.zero_mul]);clear hnil hx h1 hl hn;go_enter func121,ntmps121;go_wp2_with fail;go_ret;exact ⟨_,rfl,World.ownsRow_nil _ _ _ _,aH⟩
 |some a=>
  have HX:=aa (hx a rfl);have HL:=aa hl;have H1:=aa h1;have HN:=aa hn;clear hnil hx h1 hl hn;have hq:∀w:World,(binOp .eql 70 (.slice (some a) n c) (.slice none 0 0)).run prog w=.ok (.bool false) w:=fun w=>Lib.run_eql_slice_nil w 70 3 (some a) n c 0 0 underlying70;obtain ⟨i0,hi,hz0,hz1,hz2⟩:=info_parts aay;have HB:=aa (((Below.refl w.heap.size w).alloc aT (.cells #[] 3)));go_enter func121,ntmps121;go_wp2_with (at_builtin;refine wpList_append_own _ rfl _ _ 70 rfl w.heap.size 3 i0 (.int .i64 0) 1 8 underlying70 hi hz0 hz1 hz2 rfl (by decide) _ 0 [] rfl (World.ownsRow_made w #[] 0 aT (by unfold maxLen;omega) rfl) a n c xs rfl ?_ ?_ ?_ ?_ ?_ ?_ ?_)
  ·exact HL.o
  ·intro j u hu;exact cell_later HB (HX j u hu)
  ·exact H1.o
  ·have:=HN.o;unfold maxLen;omega
  ·have:=HN.o;omega
  ·simp
  ·intro v' w1 hown hg _
   have HO:=aa hown;have HG:=aa hg;clear hown hg;go_wp2_with fail;go_ret;exact ⟨v',rfl,by simpa using HO.o,HB.grown HG (by simp) (fun k e=>by simp[Value.ownBlock] at e;omega)⟩
end Go.Proofs.YtbigkioechkngaaGreat
