/- The proof, part 36. -/
import Derived.Test.YtbigkioechkngaaGreatQ34
set_option maxRecDepth 100000
set_option maxHeartbeats 8000000
namespace Go.Proofs.YtbigkioechkngaaGreat
open Go.RowKit
def BU:List (aA×Int)→Int
 |[]=>0
 |x::l=>bQ x.1.size+BU l
theorem JJ:∀l:List (aA×Int),Qu (l.map Uk)=BU l
 |[]=>rfl
 |x::l=>by rw[List.map_cons,Qu,BU,JJ l];rfl
theorem BV {n no:Int} {t:List aj} (ht:(gB t n).2.2=true):∀(c:List (List aj)) (i j:Nat),c[j]?=some t→¬((i+j:Nat):Int)=no→∃r,iU n no i c=some r
 |[],i,j,h,_=>by simp at h
 |u::c,i,0,h,hn=>by simp only[List.getElem?_cons_zero,Option.some.injEq] at h;subst h;unfold iU;rw[if_pos ⟨ht,hn⟩];exact ⟨_,rfl⟩
 |u::c,i,j+1,h,hn=>by
  rw[List.getElem?_cons_succ] at h;unfold iU
  split
  ·exact ⟨_,rfl⟩
  ·exact BV ht c (i+1) j h (by rw[show i+1+j=i+(j+1) by omega];exact hn)
theorem Eh {a n:Int} {S:Int} (h:a+n≤S):∀ {l:List aj},(∀u∈l,u.1+u.2.1≤S)→∀u∈iK a n l,u.1+u.2.1≤S
 |[],_,u,hu=>by unfold iK at hu;rw[List.mem_singleton] at hu;rw[hu];exact h
 |v::l,hl,u,hu=>by
  unfold iK at hu
  split at hu
  ·rcases List.mem_cons.1 hu with rfl|hu
   ·exact h
   ·exact hl u hu
  ·rcases List.mem_cons.1 hu with rfl|hu
   ·exact hl u (List.mem_cons_self ..)
   ·exact Eh h (fun w hw=>hl w (List.mem_cons_of_mem _ hw)) u hu
theorem rK:∀ {l:List (aA×Int)},(∀x∈l,cE x.1=true)→0≤BU l
 |[],_=>by unfold BU;omega
 |x::l,h=>by have h1:=(bz _).1 (h x (List.mem_cons_self ..));have:=gD h1.2.2.1 h1.2.2.2.1;have:=rK fun y hy=>h y (List.mem_cons_of_mem _ hy);unfold BU;omega
theorem pJ {n:Int} {i:Nat} (hi:¬(i:Int)=n):∀(l:List (aA×Int)) (c:List (List aj)) (f:Int→Option aA) (t:List aj) (S:Nat),cF c=true→c[i]?=some t→(∀u∈t,u.1+u.2.1≤S)→(∀x∈l,cE x.1=true)→S+BU l≤16→∃s,bH n l (c,f)=some s
 |[],c,f,t,S,_,_,_,_,_=>⟨_,rfl⟩
 |x::l,c,f,t,S,hm,ht,hS,hx,hl=>by
  have h1:=(bz _).1 (hx x (List.mem_cons_self ..));obtain ⟨g1,g2⟩:=gD h1.2.2.1 h1.2.2.2.1;have h0:=rK fun y hy=>hx y (List.mem_cons_of_mem _ hy);unfold BU at hl;obtain ⟨r1,r2⟩:=JH hS g1 (by omega);have hok:(gB t (bQ x.1.size)).2.2=true:=by unfold gB;rw[if_pos ⟨(gL.1 hm).1 t (List.mem_of_getElem? ht),g1,g2⟩,if_neg (by omega)]
  obtain ⟨⟨j,t',a⟩,hr⟩:=BV hok c 0 i ht (by rw[Nat.zero_add];exact hi);have ER:(bL c (bQ x.1.size) n).2.2.2=true:=by unfold bL;rw[if_pos hm,hr]
  unfold bH;rw[if_pos ER];obtain ⟨_,j,u,e1,_,_,_,e5,_,_,e8,e9⟩:=kD ER;have hti:=(List.getElem?_eq_some_iff.1 ht).1;by_cases e:j=i
  ·subst e
   rw[ht] at e1;injection e1 with e1;subst e1;rw[e8] at r2;refine pJ hi l _ _ _ (S+(bQ x.1.size).toNat) (uq ER g2) (by rw[e9];exact List.getElem?_set_self hti) (fun v hv=>?_) (fun y hy=>hx y (List.mem_cons_of_mem _ hy)) (by omega);exact Eh (by omega) (fun w hw=>by have:=hS w hw;omega) v hv
  ·exact pJ hi l _ _ t (S+(bQ x.1.size).toNat) (uq ER g2) (by rw[e9,List.getElem?_set_ne e];exact ht) (fun v hv=>by have:=hS v hv;omega) (fun y hy=>hx y (List.mem_cons_of_mem _ hy)) (by omega)
structure Live (d:aL):Prop where
 may:gu d=true
 live:d.dead=false
 ah:d.ah<0
theorem Live.aht {d d':aL} {Q:Int→Prop} (h:Live d) (g:mS d d' Q):Live d'∧d'.kept=d.kept:=by obtain ⟨m,rfl,_,hm⟩:=g;exact ⟨⟨hm,h.live,h.ah⟩,rfl⟩
theorem Ei:∀(k:Nat) {d:aL} {a b left:Int},Live d→0≤a→a+k≤d.kept.length→0≤b→b+k≤d.kept.length→d.cache.length+k≤20000→(fU k d a b left).2=0∧(fU k d a b left).1.cache.length≤d.cache.length+k
 |0,d,a,b,left,_,_,_,_,_,_=>⟨rfl,aT⟩
 |k+1,d,a,b,left,h,ha,ha2,hb,hb2,hc=>by
  unfold fU
  split
  ·exact ⟨rfl,Nat.le_add_right _ _⟩
  rename_i hleft;obtain ⟨q,rfl⟩:∃q:Nat,a=q:=⟨a.toNat,by omega⟩
  have hr:(fq d q).2=0:=by rw[G9 h.may h.live (List.getElem?_eq_getElem (show q<d.kept.length by omega))]
  rw[if_neg (by rw[hr];simp)];have hs:=Bt (left:=left) (Br hr) (by omega);have hw:=qT (pos:=b) (s:=jm (fq d q).1 left) h.may h.live (by omega) h.ah;obtain ⟨h2,hk⟩:=h.aht (BM (b:=b) (s:=jm (fq d q).1 left) h.may h.live h.ah);rw[if_neg (by rw[hw];simp)];have ql:(cC d b (jm (fq d q).1 left)).1.cache.length=d.cache.length+1:=by rw[hw];simp
  obtain ⟨r1,r2⟩:=Ei k (d:=(cC d b (jm (fq d q).1 left)).1) (a:=q+1) (b:=b+1) (left:=left-32) h2 (by omega) (by rw[hk];omega) (by omega) (by rw[hk];omega) (by omega);exact ⟨r1,by omega⟩
theorem yJ {met:Int} {f:Int→Option aA} {K:Nat}:∀(l:List (aA×Int)) {d:aL},Live d→d.kept.length=K→d.cache.length+BU l≤20000→(∀x∈l,cE x.1=true∧∃y,f (cG x.1)=some y∧0≤2+2*met+16*x.1.chunk+x.1.pos∧2+2*met+16*x.1.chunk+x.1.pos+bQ x.1.size≤K∧0≤2+2*met+16*y.chunk+y.pos∧2+2*met+16*y.chunk+y.pos+bQ x.1.size≤K)→(bl met f l d).2=0
 |[],d,_,_,_,_=>rfl
 |x::l,d,h,hK,hc,hx=>by obtain ⟨h1,y,hy,a1,a2,b1,b2⟩:=hx x (List.mem_cons_self ..);have h0:=(bz _).1 h1;have h8:=gD h0.2.2.1 h0.2.2.2.1;have hl:=rK fun z hz=>(hx z (List.mem_cons_of_mem _ hz)).1;unfold BU at hc;have hk:=Ei (bQ x.1.size).toNat (left:=x.1.size) h a1 (by omega) b1 (by omega) (by omega);have hg:=h.aht (rJ (bQ x.1.size).toNat (a:=2+2*met+16*x.1.chunk+x.1.pos) (b:=2+2*met+16*y.chunk+y.pos) (left:=x.1.size) h.may h.live h.ah);unfold bl lr;rw[hy,Option.getD_some,if_neg (by rw[hk.1];simp)];exact yJ l hg.1 (by rw[hg.2];exact hK) (by omega) fun z hz=>hx z (List.mem_cons_of_mem _ hz)
theorem Mj {p:bX} {n i:Nat} (hm:cA p=true) (hd:p.disk.dead=false) (hf:p.disk.ah<0) (hc:p.disk.cache.length≤200) (hn:n<p.tabs.length) (hi:¬i=n) (ht:p.tabs[i]?=some []):(cX p n).2=0:=by
 obtain ⟨hk,h2,h3,_,_,h6,_⟩:=bF.1 hm;obtain ⟨t,htn⟩:=fy (l:=p.tabs) (k:=n) hn;obtain ⟨_,e2,e3⟩:=oN hm htn;have hv:∀x∈br p.av n,cE x.1=true∧x.1.chunk=n:=fun x hx=>jN hx;have hl:BU (br p.av n)≤16:=by have:=Ee _ (e:=0) e3 (by omega);rw[e2,JJ] at this;omega
 obtain ⟨⟨c,f⟩,hs⟩:=pJ (n:=n) (i:=i) (by omega) (br p.av n) p.tabs (fun _=>none) [] 0 h2 ht (fun u hu=>by simp at hu) (fun x hx=>(hv x hx).1) (by omega);have hF:=(kN hs (fun t ht=>by have:=fY ((gL.1 h2).1 t ht);omega)).2.2.2;have hC:=(nS hs (Sub.refl _)).2;have hok:(bl p.met f (br p.av n) p.disk).2=0:=by
  refine yJ _ ⟨hk,hd,hf⟩ rfl (by omega) fun x hx=>⟨(hv x hx).1,?_⟩
  obtain ⟨y,hy⟩:=hF x hx;rcases hC _ _ hy with h|⟨⟨j,u,g1,_,g3,g4,g5,_⟩,x',jg,k1,k2,_⟩
  ·cases h
  ·rw[vF (hv x' jg).1 (hv x hx).1 k1] at k2
   rw[k2] at g5;have h0:=(bz _).1 (hv x hx).1;have hxn:=(hv x hx).2;have hj:=(List.getElem?_eq_some_iff.1 g3).1;exact ⟨y,hy,by omega,by omega,by omega,by omega⟩
 unfold cX;rw[if_neg (by rw[hm];simp),if_neg (by rw[hd];simp),if_neg (by omega),hs];simp only;rw[if_neg (by rw[hok];simp)]
end Go.Proofs.YtbigkioechkngaaGreat
