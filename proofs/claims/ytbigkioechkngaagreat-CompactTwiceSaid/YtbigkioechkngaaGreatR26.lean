/- The proof, part 27. -/
import Derived.Test.YtbigkioechkngaaGreatR25
set_option maxRecDepth 100000
set_option maxHeartbeats 8000000
namespace Go.Proofs.YtbigkioechkngaaGreat
open Go.RowKit Go.Proofs.Tryz
variable {n:Int}{L:Nat}{y:aB}{p:cm}
def DN (f:Int→Option aB) (p:ay):ay:=(ie f p.1,p.2)
structure Jd (n:Nat) (L:Nat) (C:List ay) (f:Int→Option aB):Prop where
 ok:∀p∈C,mf L p=true
 stay:∀p∈C,¬(bI p.1).chunk=n→f p.1=none
 go:∀p∈C,(bI p.1).chunk=n→∃y,f p.1=some y∧Found n L (bI p.1) y
theorem jw {p:ay} (h:mf L p=true):cO (bI p.1)=true∧cD (bI p.1)=p.1∧(bI p.1).chunk<L:=by unfold mf rX at h;simp only[Bool.and_eq_true,decide_eq_true_eq] at h;refine ⟨h.1.2,?_,h.2⟩;unfold cD;rw[if_pos h.1.2];exact Co h.1.1
theorem oH {x:aB} (hL:L≤1000) (hx:cO x=true) (h:Found n L x y):cO y=true:=by obtain ⟨e1,e2,j,h1,h2,_,h4,h5⟩:=h;have hx:=(bL _).1 hx;rw[bL,e1,e2];exact ⟨by omega,by omega,hx.2.2.1,hx.2.2.2.1,h4,h5,hx.2.2.2.2.2.2⟩
theorem kA (h:cO y=true):bI (cD y)=y:=by unfold cD;rw[if_pos h];exact pA h
theorem WT (h:cO y=true):rX (cD y)=true:=by
 unfold rX;rw[kA h,h,Bool.and_true];unfold cD;rw[if_pos h];have:=(bL _).1 h;refine decide_eq_true ?_;unfold kr
 split <;> omega
section
variable {n L:Nat} {C:List ay} {f:Int→Option aB} (hL:L≤1000)
include hL
theorem TG (h:Jd n L C f) {p:ay} (hp:p∈C):mf L (DN f p)=true∧¬(bI (ie f p.1)).chunk=n:=by
 have hk:=h.ok p hp;obtain ⟨h1,h2,h3⟩:=jw hk;by_cases e:(bI p.1).chunk=n
 ·obtain ⟨y,hy,hf⟩:=h.go p hp e
  have hm:=oH hL h1 hf;obtain ⟨_,_,j,g1,g2,g3,_⟩:=hf;have hn:ie f p.1=cD y:=by unfold ie;rw[hy]
  unfold mf DN;rw[hn,WT hm,kA hm];exact ⟨by simp;omega,by omega⟩
 ·have hn:ie f p.1=p.1:=by unfold ie;rw[h.stay p hp e]
  unfold DN;rw[hn];exact ⟨hk,e⟩
theorem MK {i:Nat} (hi:¬i=n):∀(D:List ay),Jd n L D f→(iC (D.map (DN f)) i).Perm (iC D i++(goes f i (fE D n)).map (fun x=>((yv f x).pos,cg x.1.size,x.2,true)))
 |[],_=>by simp[iC,fE,goes]
 |p::D,h=>by
  have hD:Jd n L D f:=⟨fun q hq=>h.ok q (List.mem_cons_of_mem _ hq),fun q hq=>h.stay q (List.mem_cons_of_mem _ hq),fun q hq=>h.go q (List.mem_cons_of_mem _ hq)⟩
  have ih:=MK hi D hD;have hp:=h.ok p (List.mem_cons_self ..);obtain ⟨h1,h2,h3⟩:=jw hp;have hc0:=((bL _).1 h1).1;have Ui:rX p.1=true:=by unfold mf at hp;rw[Bool.and_eq_true] at hp;exact hp.1
  by_cases e:(bI p.1).chunk=n
  ·obtain ⟨y,hy,hf⟩:=h.go p (List.mem_cons_self ..) e
   have hm:=oH hL h1 hf;have hn:ie f p.1=cD y:=by unfold ie;rw[hy]
   have hv:fE (p::D) n=(bI p.1,p.2)::fE D n:=by unfold fE;rw[List.filter_cons_of_pos (by rw[Ui,decide_eq_true e];rfl)];rfl
   have PR:yv f (bI p.1,p.2)=y:=by unfold yv;rw[h2,hy];rfl
   have ht:iC (p::D) i=iC D i:=by unfold iC;rw[List.filter_cons_of_neg (by unfold fP;simp only[decide_eq_true_eq];omega)]
   obtain ⟨e1,_,j,g1,_⟩:=hf;rw[hv,ht,List.map_cons];unfold goes at ih ⊢;by_cases ej:j=i
   ·have ha:iC (DN f p::D.map (DN f)) i=((y.pos,cg (bI p.1).size,p.2,true):aj)::iC (D.map (DN f)) i:=by
     unfold iC;rw[List.filter_cons_of_pos (by unfold fP DN;simp only[decide_eq_true_eq];rw[hn,kA hm];omega),List.map_cons];unfold qF DN;simp only;rw[hn,kA hm,e1]
    rw[ha,List.filter_cons_of_pos (by rw[PR];exact decide_eq_true (by omega)),List.map_cons,PR];exact (ih.cons _).trans List.perm_middle.symm
   ·have ha:iC (DN f p::D.map (DN f)) i=iC (D.map (DN f)) i:=by
     unfold iC;rw[List.filter_cons_of_neg (by unfold fP DN;simp only[decide_eq_true_eq];rw[hn,kA hm];omega)]
    rw[ha,List.filter_cons_of_neg (by rw[PR];simp only[decide_eq_true_eq];omega)];exact ih
  ·have hn:DN f p=p:=by unfold DN ie;rw[h.stay p (List.mem_cons_self ..) e]
   have hv:fE (p::D) n=fE D n:=by unfold fE;rw[List.filter_cons_of_neg (by rw[decide_eq_false e,Bool.and_false];simp)]
   rw[hv,List.map_cons,hn];by_cases ei:fP p=i
   ·have ht:∀E:List ay,iC (p::E) i=qF p::iC E i:=fun E=>by unfold iC;rw[List.filter_cons_of_pos (by simpa using ei)];rfl
    rw[ht,ht];exact ih.cons _
   ·have ht:∀E:List ay,iC (p::E) i=iC E i:=fun E=>by unfold iC;rw[List.filter_cons_of_neg (by simpa using ei)]
    rw[ht,ht];exact ih
theorem E8 (h:Jd n L C f):iC (C.map (DN f)) n=[]:=by unfold iC;rw[List.map_eq_nil_iff,List.filter_eq_nil_iff];intro q hq;obtain ⟨p,hp,rfl⟩:=List.mem_map.1 hq;obtain ⟨h1,h2⟩:=TG hL h hp;have h3:=(jw h1).1;have:=((bL _).1 h3).1;have h4:¬(bI (DN f p).1).chunk=n:=h2;unfold fP;simp only[decide_eq_true_eq];omega
end
theorem wT {g:Int→Int} {a:Int}:∀ {l:List Int},(∀b∈l,g b=g a→b=a)→(l.map g).count (g a)=l.count a
 |[],_=>rfl
 |b::l,h=>by
  rw[List.map_cons,List.count_cons,List.count_cons,wT fun c hc=>h c (List.mem_cons_of_mem _ hc)];have:=h b (List.mem_cons_self ..);congr 1;by_cases e:b=a
  ·simp[e]
  ·have hne:¬g b=g a:=fun h'=>e (this h')
   simp[e,hne]
theorem TH {C C':List ay} {vals:List Int} {g:Int→Int} (h:jC C vals) (h':jC C' (vals.map g)) (hi:∀a∈vals,∀b∈vals,g a=g b→a=b):C'.Perm (C.map (fun p=>(g p.1,p.2))):=by
 have hr:∀ {D:List ay},pD D→D.Nodup:=fun h=>h.imp fun h e=>by rw[e] at h;omega
 refine (List.perm_ext_iff_of_nodup (hr h'.1) ?_).2 fun p=>?_
 ·unfold List.Nodup
  rw[List.pairwise_map];refine h.1.imp_of_mem fun {a b} ha hb hab e=>?_;have:=hi _ ((h.2 a).1 ha).1 _ ((h.2 b).1 hb).1 (congrArg Prod.fst e);omega
 ·rw[h'.2]
  constructor
  ·rintro ⟨h1,h2⟩
   obtain ⟨v,hv,e⟩:=List.mem_map.1 h1;refine List.mem_map.2 ⟨(v,(vals.count v:Nat)),(h.2 _).2 ⟨hv,rfl⟩,?_⟩;rw[← e,wT fun b hb e=>hi b hb v hv e] at h2;exact Prod.ext e h2.symm
  ·intro hp
   obtain ⟨q,hq,rfl⟩:=List.mem_map.1 hp;obtain ⟨h1,h2⟩:=(h.2 q).1 hq;exact ⟨List.mem_map.2 ⟨q.1,h1,rfl⟩,by simp only;rw[h2,wT fun b hb e=>hi b hb q.1 h1 e]⟩
theorem aa3 {L1 L2:List aj} (hp:L1.Perm L2) (h1:L1.Pairwise (fun a b=>a.1≤b.1)) (h2:L2.Pairwise (fun a b=>a.1<b.1)):L1=L2:=by
 refine hp.eq_of_pairwise (le:=fun a b=>a.1≤b.1) (fun a b ha hb h3 h4=>?_) h1 (h2.imp fun h=>by omega);by_cases e:a=b
 ·exact e
 ·have:=rz (R:=fun a b:aj=>¬a.1=b.1) (fun _ _ h e=>h e.symm) (h2.imp fun h=>by omega) a (hp.mem_iff.1 ha) b hb e
  omega
theorem PU {C:List ay} (h:pD C) (ho:∀p∈C,mf L p=true) (i:Nat):(iC C i).Pairwise (fun a b=>a.1≤b.1):=by unfold iC;rw[List.pairwise_map];refine (List.Pairwise.filter _ h).imp_of_mem fun {a b} ha hb hab=>?_;rw[List.mem_filter,decide_eq_true_eq] at ha hb;have h1:=(jw (ho a ha.1)).1;have h2:=(jw (ho b hb.1)).1;have e1:=ha.2;have e2:=hb.2;unfold fP at e1 e2;have c1:=((bL _).1 h1).1;have c2:=((bL _).1 h2).1;unfold qF;unfold bI at *;simp only at *;omega
theorem LK (f:Int→Option aB) (l:List dx):cY (l.map (mD f))=(cY l).map (ie f):=by unfold cY gX mD;rw[List.map_map,List.map_flatten,List.map_map];congr 1;refine List.map_congr_left fun d _=>?_;simp only[Function.comp,mH,List.map_map];rfl
theorem TI {f:Int→Option aB} {l:List dx} (h:dP l=true) (hf:∀v∈cY l,rX (ie f v)=true):dP (l.map (mD f))=true:=by
 obtain ⟨h1,h2,h3⟩:=dr.1 h;refine dr.2 ⟨fun d hd=>?_,fun i x y hx hy=>?_,by rw[List.length_map];exact h3⟩
 ·obtain ⟨d,Qz,rfl⟩:=List.mem_map.1 hd
  have:=h1 d Qz;unfold cE at this ⊢;simp only[Bool.and_eq_true,List.all_eq_true] at this ⊢;refine ⟨⟨this.1.1,?_⟩,fun x hx=>?_⟩
  ·have hm:=this.1.2
   unfold jN at hm ⊢;have hr:jy (aA (iX f d.map))=jy (aA d.map):=by unfold jy;rw[mH,List.map_map];rfl
   show (decide (cC (iX f d.map) 40≠0)&&bE (iX f d.map) 0&&jy (aA (iX f d.map)))=true;rw[Dq,A8,hr];exact hm
  ·have hx:x∈aA (iX f d.map):=hx
   rw[mH] at hx;obtain ⟨z,hz,rfl⟩:=List.mem_map.1 hx;have hk:=this.2 z hz;unfold dG at hk ⊢;simp only[Bool.and_eq_true] at hk ⊢;refine ⟨hf z.2 ?_,hk.2⟩;unfold cY gX;rw[List.mem_flatten];exact ⟨_,List.mem_map.2 ⟨d,Qz,rfl⟩,List.mem_map.2 ⟨z,hz,rfl⟩⟩
 ·rw[List.getElem?_map] at hx hy
  obtain ⟨a,ha,rfl⟩:=Option.map_eq_some_iff.1 hx;obtain ⟨b,hb,rfl⟩:=Option.map_eq_some_iff.1 hy;exact h2 i a b ha hb
theorem ym (hm:cG p=true) (h:(dC p n).2=0):p.disk.dead=false∧∃(k:Nat) (c:List (List aj)) (f:Int→Option aB),n=k∧k<p.tabs.length∧bH k (bC p.aw k) (p.tabs,fun _=>none)=some (c,f)∧(bB p.met f (bC p.aw k) p.disk).2=0∧dC p n=({p with disk:=(bB p.met f (bC p.aw k) p.disk).1,tabs:=cH f (bC p.aw k) c,aw:=p.aw.map (mD f)},0):=by
 unfold dC at h ⊢;rw[if_neg (by rw[hm];simp)] at h ⊢;by_cases hd:p.disk.dead=true
 ·rw[if_pos hd] at h;simp at h
 rw[if_neg hd] at h ⊢;by_cases hn:n<0∨(p.tabs.length:Int)≤n
 ·rw[if_pos hn] at h;simp at h
 rw[if_neg hn] at h ⊢;obtain ⟨k,rfl⟩:∃k:Nat,n=k:=⟨n.toNat,by omega⟩
 cases ht:bH k (bC p.aw k) (p.tabs,fun _=>none) with
 |none=>rw[ht] at h;simp at h
 |some s=>
  rw[ht] at h;simp only at h ⊢;by_cases hc:(bB p.met s.2 (bC p.aw k) p.disk).2=0
  ·rw[if_neg (by rw[hc];simp)]
   exact ⟨by simpa using hd,k,s.1,s.2,rfl,by omega,ht,hc,rfl⟩
  ·rw[if_pos hc] at h
   exact absurd h hc
theorem PW (hm:cG p=true) (hf:p.disk.ah<0) (h:(dC p n).2=0):cG (dC p n).1=true∧∃k:Nat,n=k∧k<p.tabs.length∧(dC p n).1.tabs.length=p.tabs.length∧(∀t,(dC p n).1.tabs[k]?=some t→aP t=[])∧∃f,(dC p n).1.aw=p.aw.map (mD f):=by
 obtain ⟨hd,k,c,f,rfl,hk,ht,hc,e⟩:=ym hm h;obtain ⟨m1,m2,m3,m4,m5,m6,m7⟩:=bO.1 hm;obtain ⟨L,eL,l1,l2,hv,ho,_,_,hg⟩:=yj m7;have eL:p.tabs.length=L:=by omega
 rw[eL] at hk;have hT:=lz hv;obtain ⟨t,htk⟩:=fx (l:=p.tabs) (k:=k) (by omega);obtain ⟨t1,t2,t3⟩:=rq hm htk;have hx:∀x∈bC p.aw k,cO x.1=true∧x.1.chunk=k:=fun x hx=>ky hx;have tG:(bC p.aw k).Pairwise (fun a b=>a.1.pos<b.1.pos):=by have:=(rW t3).1;rw[t2,List.pairwise_map] at this;exact this
 have amf:(bC p.aw k).Pairwise (fun a b=>¬cD a.1=cD b.1):=tG.imp_of_mem fun {a b} ha hb hab e=>by rw[Bo (hx a ha).1 (hx b hb).1 e] at hab;omega
 obtain ⟨n1,n2,n3,n4,n5⟩:=yl (bC p.aw k) ht m2 (fun x h=>(hx x h).1) amf;have hvx:∀q∈aX p.aw,(bI q.1).chunk=k→(bI q.1,q.2)∈bC p.aw k:=fun q hq e=>by unfold bC fE;refine List.mem_map.2 ⟨q,List.mem_filter.2 ⟨hq,?_⟩,rfl⟩;have:=ho q hq;unfold mf at this;rw[Bool.and_eq_true] at this;rw[this.1,decide_eq_true e];rfl
 have hxv:∀x∈bC p.aw k,∃q∈aX p.aw,(bI q.1,q.2)=x∧cD x.1=q.1:=fun x hx=>by unfold bC fE at hx;obtain ⟨q,hq,rfl⟩:=List.mem_map.1 hx;have hq:=(List.mem_filter.1 hq).1;exact ⟨q,hq,rfl,(jw (ho q hq)).2.1⟩
 have hM:Jd k L (aX p.aw) f:=⟨ho,fun q hq hne=>by
  rw[n3 q.1 fun x ji e'=>hne (by
   obtain ⟨q',_,e1,e2⟩:=hxv x ji;have:=(hx x ji).2;rw[← e1] at this;rw[← e',e2];exact this)],fun q hq hn=>by
  obtain ⟨y,hy,Qp⟩:=n4 _ (hvx q hq hn);rw[(jw (ho q hq)).2.1] at hy;rw[← eL];exact ⟨y,hy,Qp⟩⟩
 have hu:∀x∈bC p.aw k,(∃u∈t,u.1=x.1.pos∧u.2.1=cg x.1.size)∧1≤x.2∧x.2≤1000000:=fun x ji=>by
  have hu:WS x∈aP t:=by rw[t2];exact List.mem_map.2 ⟨x,ji,rfl⟩
  have hb:=cj.1 (iw t3 hu);unfold aP at hu;obtain ⟨u,QR,UT⟩:=List.mem_map.1 hu;have hu3:=(List.mem_filter.1 QR)
  have a1:=congrArg Prod.fst UT;have a2:=congrArg (fun u:aj=>u.2.1) UT;have a3:=congrArg (fun u:aj=>u.2.2.1) UT;have h0:=of_decide_eq_true hu3.2;simp only[zW,WS] at a1 a2 a3 hb;exact ⟨⟨u,hu3.1,a1,a2⟩,by omega,hb.2.2.2.2.2.1⟩
 obtain ⟨t',g1,g2⟩:=n5 k t htk;have hgk:goes f k (bC p.aw k)=[]:=by unfold goes;rw[List.filter_eq_nil_iff];intro x ji;obtain ⟨y,hy,_,_,j,j1,_,j3,_⟩:=n4 x ji;simp only[decide_eq_true_eq];unfold yv;rw[hy];show ¬y.chunk=k;omega
 rw[hgk,List.map_nil,List.append_nil] at g2;obtain ⟨r1,r2,r3,r4⟩:=uZ (n:=k) (f:=f) (bC p.aw k) n1 (fun x ji=>⟨(hx x ji).1,(hx x ji).2,(hu x ji).2.1,(hu x ji).2.2,by
  obtain ⟨y,hy,_,_,j,j1,_,j3,_⟩:=n4 x ji;exact ⟨j,by unfold yv;rw[hy];exact j1,by omega⟩⟩) tG g1 (fun x ji=>by
   obtain ⟨⟨u,u1,u2⟩,_⟩:=hu x ji;exact ⟨u,g2.mem_iff.2 u1,u2⟩)
 have hlen:(cH f (bC p.aw k) c).length=L:=by omega
 have hnone:aP (E7 (bC p.aw k) t')=[]:=by unfold aP;rw[List.map_eq_nil_iff,List.filter_eq_nil_iff];intro u hu' h0;have h0:=of_decide_eq_true h0;obtain ⟨w1,w2⟩:=u6 _ hu' h0;have:zW u∈aP t:=List.mem_map.2 ⟨u,List.mem_filter.2 ⟨g2.mem_iff.1 w1,decide_eq_true h0⟩,rfl⟩;rw[t2] at this;obtain ⟨x,ji,e'⟩:=List.mem_map.1 this;exact w2 x ji (congrArg Prod.fst e').symm
 have pM:∀v∈cY p.aw,∃q∈aX p.aw,q.1=v:=fun v hv'=>⟨(v,_),(hT.2 (v,((cY p.aw).count v:Nat))).2 ⟨hv',rfl⟩,rfl⟩
 have hap:∀(j:Nat) (s:List aj),p.tabs[j]?=some s→∃s',c[j]?=some s'∧s'.Perm (s++(goes f j (bC p.aw k)).map (fun x=>rr f x 1))∧s'.Pairwise (fun a b=>¬a.1=b.1)∧(s++(goes f j (bC p.aw k)).map (fun x=>rr f x 1)).Pairwise (fun a b=>¬a.1=b.1):=fun j s hs=>by
  obtain ⟨s',s1,s2⟩:=n5 j s hs;have hq:s'.Pairwise (fun a b=>¬a.1=b.1):=(rW ((iJ.1 n1).1 s' (List.mem_of_getElem? s1))).1.imp fun h=>by omega
  exact ⟨s',s1,s2,hq,(s2.pairwise_iff fun h e=>h e.symm).1 hq⟩
 have amh:∀a∈cY p.aw,∀b∈cY p.aw,ie f a=ie f b→a=b:=by
  have S6:∀q∈aX p.aw,∀q'∈aX p.aw,(bI q.1).chunk=k→¬(bI q'.1).chunk=k→¬ie f q.1=ie f q'.1:=fun q hq q' hq' e1 e2 e=>by
   obtain ⟨y,hy,Qp⟩:=hM.go q hq e1;have hm':=oH l2 (jw (ho q hq)).1 Qp;obtain ⟨_,_,j,j1,j2,j3,_⟩:=Qp;obtain ⟨s,hs⟩:=fx (l:=p.tabs) (k:=j) (by omega);obtain ⟨s',_,_,_,BC⟩:=hap j s hs;have e3:cD y=q'.1:=by rw[show cD y=ie f q.1 by unfold ie;rw[hy],e];unfold ie;rw[hM.stay q' hq' e2]
   have ey:y=bI q'.1:=(by rw[← e3,kA hm']);have J4:qF q'∈aP s:=by
    rw[(rq hm hs).2.1];have:(bI q'.1,q'.2)∈bC p.aw j:=by unfold bC fE;refine List.mem_map.2 ⟨q',List.mem_filter.2 ⟨hq',?_⟩,rfl⟩;have hb:=ho q' hq';unfold mf at hb;rw[Bool.and_eq_true] at hb;rw[hb.1,decide_eq_true (by rw[← ey];exact j1)];rfl
    exact List.mem_map.2 ⟨_,this,rfl⟩
   unfold aP at J4;obtain ⟨u,QR,UT⟩:=List.mem_map.1 J4;have ji:=hvx q hq e1;have PR:yv f (bI q.1,q.2)=y:=by unfold yv;rw[(jw (ho q hq)).2.1,hy];rfl
   have hgo:(bI q.1,q.2)∈goes f j (bC p.aw k):=List.mem_filter.2 ⟨ji,by rw[PR];exact decide_eq_true j1⟩;refine (List.pairwise_append.1 BC).2.2 u (List.mem_filter.1 QR).1 _ (List.mem_map.2 ⟨_,hgo,rfl⟩) ?_;have a1:=congrArg Prod.fst UT;simp only[zW,qF] at a1;show u.1=(yv f (bI q.1,q.2)).pos;rw[PR,a1,ey]
  intro a ha b hb e;obtain ⟨q,hq,rfl⟩:=pM a ha;obtain ⟨q',hq',rfl⟩:=pM b hb;by_cases e1:(bI q.1).chunk=k
  ·by_cases e2:(bI q'.1).chunk=k
   ·obtain ⟨y,hy,Qp⟩:=hM.go q hq e1
    obtain ⟨y',BB,ami⟩:=hM.go q' hq' e2;have e3:cD y=cD y':=by
     have h1:ie f q.1=cD y:=by unfold ie;rw[hy]
     have h2:ie f q'.1=cD y':=by unfold ie;rw[BB]
     rw[← h1,← h2,e]
    have ey:=Bo (oH l2 (jw (ho q hq)).1 Qp) (oH l2 (jw (ho q' hq')).1 ami) e3;obtain ⟨_,_,j,j1,j2,_⟩:=Qp;obtain ⟨s,hs⟩:=fx (l:=p.tabs) (k:=j) (by omega);obtain ⟨_,_,_,_,BC⟩:=hap j s hs;have hq3:=(List.pairwise_append.1 BC).2.1;rw[List.pairwise_map] at hq3;have PR:yv f (bI q.1,q.2)=y:=by unfold yv;rw[(jw (ho q hq)).2.1,hy];rfl
    have agL:yv f (bI q'.1,q'.2)=y':=by unfold yv;rw[(jw (ho q' hq')).2.1,BB];rfl
    by_cases hne:(bI q.1,q.2)=(bI q'.1,q'.2)
    ·have h9:=congrArg Prod.fst hne
     simp only at h9;rw[← (jw (ho q hq)).2.1,← (jw (ho q' hq')).2.1,h9]
    ·refine absurd ?_ (rz (fun _ _ h e=>h e.symm) hq3 _ (List.mem_filter.2 ⟨hvx q hq e1,by rw[PR];exact decide_eq_true j1⟩) _ (List.mem_filter.2 ⟨hvx q' hq' e2,by rw[agL,← ey];exact decide_eq_true j1⟩) hne)
     show (yv f (bI q.1,q.2)).pos=(yv f (bI q'.1,q'.2)).pos;rw[PR,agL,ey]
   ·exact absurd e (S6 q hq q' hq' e1 e2)
  ·by_cases e2:(bI q'.1).chunk=k
   ·exact absurd e.symm (S6 q' hq' q hq e2 e1)
   ·unfold ie at e
    rw[hM.stay q hq e1,hM.stay q' hq' e2] at e;exact e
 have hv2:dP (p.aw.map (mD f))=true:=TI hv fun v hv'=>by obtain ⟨q,hq,rfl⟩:=pM v hv';have:=(TG l2 hM hq).1;unfold mf DN at this;rw[Bool.and_eq_true] at this;exact this.1
 have hT2:=lz hv2;rw[LK] at hT2;have Gs:(aX (p.aw.map (mD f))).Perm ((aX p.aw).map (DN f)):=TH hT hT2 amh;have ho2:∀q∈aX (p.aw.map (mD f)),mf L q=true:=fun q hq=>by obtain ⟨q',hq',rfl⟩:=List.mem_map.1 (Gs.mem_iff.1 hq);exact (TG l2 hM hq').1
 have amj:∀i,i<L→∃s,(cH f (bC p.aw k) c)[i]?=some s∧dE s=true∧aP s=iC (aX (p.aw.map (mD f))) i:=fun i hi=>by
  have hp:=(Gs.filter (fun p=>decide (fP p=i))).map qF;by_cases e':i=k
  ·subst e'
   refine ⟨_,r3,(iJ.1 r1).1 _ (List.mem_of_getElem? r3),?_⟩;rw[hnone];have:(iC (aX (p.aw.map (mD f))) i).Perm []:=by rw[← E8 l2 hM];exact hp
   exact this.eq_nil.symm
  ·obtain ⟨s,hs⟩:=fx (l:=p.tabs) (k:=i) (by omega)
   obtain ⟨s',s1,s2,s3,_⟩:=hap i s hs;have hsg:=r4 i s' e' s1;have Xs:=(iJ.1 r1).1 _ (List.mem_of_getElem? hsg);refine ⟨_,hsg,Xs,(aa3 ?_ (PU hT2.1 ho2 i) (rW (Bq Xs)).1).symm⟩;refine (show (iC (aX (p.aw.map (mD f))) i).Perm (iC ((aX p.aw).map (DN f)) i) from hp).trans ((MK l2 e' _ hM).trans ?_);have hcs:=ru (f:=f) (i:=i) (bC p.aw k) s3 s2;have hcg:(aP (tW f i (bC p.aw k) s')).Perm (aP (s++(goes f i (bC p.aw k)).map (fun x=>rr f x x.2))):=(hcs.filter _).map _;refine (hcg.trans ?_).symm;have ec:aP (s++(goes f i (bC p.aw k)).map (fun x=>rr f x x.2))=aP s++(goes f i (bC p.aw k)).map (fun x=>((yv f x).pos,cg x.1.size,x.2,true)):=by
    have hfs:((goes f i (bC p.aw k)).map (fun x=>rr f x x.2)).filter (fun u=>decide (0<u.2.2.1))=(goes f i (bC p.aw k)).map (fun x=>rr f x x.2):=List.filter_eq_self.2 fun u hu'=>by obtain ⟨x,ji,rfl⟩:=List.mem_map.1 hu';have:=(hu x (List.mem_filter.1 ji).1).2.1;exact decide_eq_true (by show 0<x.2;omega)
    unfold aP;rw[List.filter_append,List.map_append,hfs,List.map_map];rfl
   have e9:aP s=iC (aX p.aw) i:=by rw[(rq hm hs).2.1,DF ho i];rfl
   rw[ec,e9];exact List.Perm.refl _
 rw[e];obtain ⟨mg,Ng,_,jJ⟩:=nK (met:=p.met) (f:=f) (bC p.aw k) m1 hd hf;refine ⟨bO.2 ⟨jJ,r1,m3,m4,m5,?_,?_⟩,k,rfl,by omega,(show (cH f (bC p.aw k) c).length=p.tabs.length by omega),fun t J4=>?_,f,rfl⟩
 ·show ((bB p.met f (bC p.aw k) p.disk).1.kept.length:Int)=2+2*p.met+16*(cH f (bC p.aw k) c).length
  rw[Ng,hlen,← eL];exact m6
 ·show bX (p.aw.map (mD f)) (cH f (bC p.aw k) c).length=some ((cH f (bC p.aw k) c).map aP)
  rw[hlen];refine LI l1 l2 hv2 ho2 (by rw[List.length_map];exact hlen) ?_ fun i hi=>?_
  ·rw[List.all_eq_true]
   intro z hz;obtain ⟨s,hs,rfl⟩:=List.mem_map.1 hz;exact Bq ((iJ.1 r1).1 s hs)
  ·obtain ⟨s,s1,_,s3⟩:=amj i hi
   rw[List.getElem?_map,s1,← s3];rfl
 ·have WU:(cH f (bC p.aw k) c)[k]?=some t:=J4
  rw[r3] at WU;injection WU with WU;rw[← WU];exact hnone
theorem Je {k:Nat} (hm:cG p=true) (hd:p.disk.dead=false) (hk:k<p.tabs.length) (ht:∀t,p.tabs[k]?=some t→aP t=[]):dC p k=(p,0):=by obtain ⟨t,htk⟩:=fx (l:=p.tabs) (k:=k) hk;have h2:=(rq hm htk).2.1;rw[ht t htk] at h2;have hv:bC p.aw k=[]:=List.map_eq_nil_iff.1 h2.symm;unfold dC;rw[if_neg (ES hm),if_neg (by rw[hd];simp),if_neg (by omega),hv];simp only[bH,bB,cH,List.foldl_nil];rw[if_neg (by simp)];have hr:p.aw.map (mD fun _=>none)=p.aw:=(List.map_congr_left (g:=id) fun d _=>by unfold mD;rw[Dr];rfl).trans (List.map_id _);rw[hr]
theorem PX:∀ {t:List aj},dE t=true→aP t=[]→fo t=0:=fun {t} hm h=>by
 have:∀u∈t,u.2.2.1=0:=fun u hu=>by unfold aP at h;rw[List.map_eq_nil_iff,List.filter_eq_nil_iff] at h;have h1:=h u hu;simp only[decide_eq_true_eq] at h1;have:=cj.1 (iw hm hu);omega
 clear hm h
 induction t with
 |nil=>rfl
 |cons u l ih=>unfold fo;rw[if_pos (this u (List.mem_cons_self ..)),ih fun v hv=>this v (List.mem_cons_of_mem _ hv)];rfl
theorem tX {k:Nat}:∀(l:List (List aj)) (i:Nat) (b m:Int),¬b=k→(∀j t,l[j]?=some t→i+j=k→fo t=0)→¬jY i l b m=k
 |[],i,b,m,hb,_=>hb
 |t::l,i,b,m,hb,h=>by
  have h2:∀j s,l[j]?=some s→i+1+j=k→fo s=0:=fun j s hs e=>h (j+1) s (by rw[List.getElem?_cons_succ];exact hs) (by omega);unfold jY
  split
  ·rename_i hc
   refine tX l _ _ _ (fun e=>?_) h2;have:=h 0 t rfl (by omega);omega
  ·exact tX l _ _ _ hb h2
theorem PY {k:Nat} (hm:cG p=true) (ht:∀t,p.tabs[k]?=some t→aP t=[]):¬mK p=k:=by
 unfold mK;rw[if_pos hm];exact tX _ 0 _ _ (by omega) fun j t h e=>by
  obtain rfl:j=k:=by omega
  exact PX (rq hm h).1 (ht t h)
theorem Ch (p:cm):mJ p p=true:=by
 have h1:qZ p.disk p.disk=true:=IZ.2 rfl;have h2:jP p.aw p.aw=true:=by rw[l5];refine ⟨rfl,fun j a b ha hb=>?_⟩;rw[ha] at hb;injection hb with hb;subst hb;unfold kU lW;simp
 have h3:kY p.tabs p.tabs=true:=by unfold kY;exact decide_eq_true rfl
 unfold mJ;rw[h1,h2,h3];simp
end Go.Proofs.YtbigkioechkngaaGreat
