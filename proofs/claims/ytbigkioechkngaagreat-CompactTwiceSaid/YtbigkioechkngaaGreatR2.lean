/- The proof, part 3. -/
import Derived.Test.YtbigkioechkngaaGreatR1
set_option maxRecDepth 100000
set_option maxHeartbeats 8000000
namespace Go.Proofs.YtbigkioechkngaaGreat
open Go.RowKit Tryz
variable {d:Bool}{a b c:Int}
theorem xx (x y:List aj) (v1 v2:Value) (w:World) (h1:dA w v1 x) (h2:dA w v2 y):Calls prog 52 #[v1,v2] w fun e w'=>e=.returned (.bool (nY x y))∧Bw w w':=by
 obtain ⟨p,cp,rfl,a1,a2,ha⟩:=h1;obtain ⟨q,cq,rfl,b1,b2,hb⟩:=h2;have HA:=aa ha;have jl:=aa hb;obtain ⟨N,hN⟩:=aG x.length;obtain ⟨M,hM⟩:=aG y.length;rw[hN] at a1;rw[hM] at b1;rw[hN,hM];have hlc:=fG (n:=N) a2;have hld:=fG (n:=M) b2;have HN:=aa hN;have HM:=aa hM;clear ha hb hN hM a1 a2 b1 b2;by_cases hNM:N=M
 case neg=>
  have hne:((N:Int) != (M:Int))=true:=by rw[bne_iff_ne];omega
  have HF:=aa (show nY x y=false by
   unfold nY;rw[decide_eq_false_iff_not];intro h;exact hNM (by rw[← HN.o,← HM.o,h]))
  clear hNM;go_enter func52,ntmps52;go_wp2_with fail;go_ret;exact ⟨aN HF.symm,aH⟩
 subst hNM;have hne:((N:Int) != (N:Int))=false:=by simp
 go_enter func52,ntmps52;go_wp2_with fail;go_loopw [5] (fun i wr=>∃k:Nat,k≤N∧i=.int .i64 k∧(∀(j:Nat),j<k→x[j]?=y[j]?)∧Bw w wr) (fun i _=>N-(intOf i).toNat)
 case atStart=>exact ⟨0,dO,rfl,fun j hj=>by omega,aH⟩
 case round=>
  obtain ⟨k,hk,rfl,hall,hb⟩:=hrel;have ed:=aa hall;have HB:=aa hb;clear hall hb;by_cases hlt:k<N
  case neg=>
   obtain rfl:k=N:=by omega
   have HF:=aa (show nY x y=true by
    unfold nY;rw[decide_eq_true_eq];apply List.ext_getElem?;intro j;by_cases hj:j<k
    ·exact ed j hj
    ·rw[List.getElem?_eq_none (by rw[HN.o];omega),List.getElem?_eq_none (by rw[HM.o];omega)])
   go_wp2_with fail;go_ret;exact ⟨aN HF.symm,HB⟩
  have fN:(k:Int)<(N:Int):=by omega
  obtain ⟨⟨sa,sb,sc,sd⟩,hs⟩:∃s,x[k]?=some s:=⟨_,List.getElem?_eq_getElem (by rw[HN.o];omega)⟩
  obtain ⟨⟨ta,tb,tc,td⟩,ht⟩:∃t,y[k]?=some t:=⟨_,List.getElem?_eq_getElem (by rw[HM.o];omega)⟩
  obtain ⟨g,o,rfl,x1⟩:=HA.o k _ hs;obtain ⟨g',o',rfl,y1⟩:=jl.o k _ ht;obtain ⟨r0,r1,r2,r3⟩:=x1.keep (af HB);obtain ⟨q0,q1,q2,q3⟩:=y1.keep (af HB);simp only at r0 r1 r2 r3 q0 q1 q2 q3;have HS:=aa hs;have HT:=aa ht;clear hs ht x1 y1;by_cases hst:((sa,sb,sc,sd):aj)=(ta,tb,tc,td)
  ·injection hst with e1 hst;injection hst with e2 hst;injection hst with e3 e4
   subst e1;subst e2;subst e3;subst e4;have b1:(sa==sa)=true:=by simp
   have b2:(sb==sb)=true:=(by simp);have b3:(sc==sc)=true:=by simp
   have b4:(sd==sd)=true:=(by simp);go_wp2_with fail;go_quiet (fail);go_wp2_with fail;go_roundw
   case rel=>
    refine ⟨k+1,by omega,by go_num,fun j hj=>?_,az HB.o _⟩;by_cases e:j=k
    ·subst e;rw[HS.o,HT.o]
    ·exact ed j (by omega)
   case measure=>simp[intOf];omega
  ·have HF:=aa (show nY x y=false by
    unfold nY;rw[decide_eq_false_iff_not];intro h;subst h;exact hst (by have:=HS.o;rw[HT.o] at this;injection this with this;exact this.symm))
   have hc:((sa==ta)=false)∨((sa==ta)=true∧(sb==tb)=false)∨((sa==ta)=true∧(sb==tb)=true∧(sc==tc)=false)∨((sa==ta)=true∧(sb==tb)=true∧(sc==tc)=true∧(sd==td)=false):=by
    by_cases e1:sa=ta
    ·by_cases e2:sb=tb
     ·by_cases e3:sc=tc
      ·by_cases e4:sd=td
       ·exact absurd (by rw[e1,e2,e3,e4]) hst
       ·exact .inr (.inr (.inr ⟨by simpa using e1,by simpa using e2,by simpa using e3,by simpa using e4⟩))
      ·exact .inr (.inr (.inl ⟨by simpa using e1,by simpa using e2,by simpa using e3⟩))
     ·exact .inr (.inl ⟨by simpa using e1,by simpa using e2⟩)
    ·exact .inl (by simpa using e1)
   clear hst;rcases hc with h1|⟨h1,h2⟩|⟨h1,h2,h3⟩|⟨h1,h2,h3,h4⟩
   all_goals
    go_wp2_with fail;go_quiet (fail);go_wp2_with fail;go_ret;exact ⟨aN HF.symm,az HB _⟩
def kY (a b:List (List aj)):Bool:=decide (a=b)
theorem Gm (x y:List (List aj)) (v1 v2:Value) (w:World) (h1:dH w v1 x) (h2:dH w v2 y):Calls prog 48 #[v1,v2] w fun e w'=>e=.returned (.bool (kY x y))∧Bw w w':=by
 obtain ⟨p,cp,rfl,a1,a2,ha⟩:=h1;obtain ⟨q,cq,rfl,b1,b2,hb⟩:=h2;have HA:=aa ha;have jl:=aa hb;obtain ⟨N,hN⟩:=aG x.length;obtain ⟨M,hM⟩:=aG y.length;rw[hN] at a1;rw[hM] at b1;rw[hN,hM];have hlc:=fG (n:=N) a2;have hld:=fG (n:=M) b2;have HN:=aa hN;have HM:=aa hM;clear ha hb hN hM a1 a2 b1 b2;by_cases hNM:N=M
 case neg=>
  have hne:((N:Int) != (M:Int))=true:=by rw[bne_iff_ne];omega
  have HF:=aa (show kY x y=false by
   unfold kY;rw[decide_eq_false_iff_not];intro h;exact hNM (by rw[← HN.o,← HM.o,h]))
  clear hNM;go_enter func48,ntmps48;go_wp2_with fail;go_ret;exact ⟨aN HF.symm,aH⟩
 subst hNM;have hne:((N:Int) != (N:Int))=false:=by simp
 go_enter func48,ntmps48;go_wp2_with fail;go_loopw [5] (fun i wr=>∃k:Nat,k≤N∧i=.int .i64 k∧(∀(j:Nat),j<k→x[j]?=y[j]?)∧Bw w wr) (fun i _=>N-(intOf i).toNat)
 case atStart=>exact ⟨0,dO,rfl,fun j hj=>by omega,aH⟩
 case round=>
  obtain ⟨k,hk,rfl,hall,hb⟩:=hrel;have ed:=aa hall;have HB:=aa hb;clear hall hb;by_cases hlt:k<N
  case neg=>
   obtain rfl:k=N:=by omega
   have HF:=aa (show kY x y=true by
    unfold kY;rw[decide_eq_true_eq];apply List.ext_getElem?;intro j;by_cases hj:j<k
    ·exact ed j hj
    ·rw[List.getElem?_eq_none (by rw[HN.o];omega),List.getElem?_eq_none (by rw[HM.o];omega)])
   go_wp2_with fail;go_ret;exact ⟨aN HF.symm,HB⟩
  have fN:(k:Int)<(N:Int):=by omega
  obtain ⟨s,hs⟩:=fx (l:=x) (k:=k) (by rw[HN.o];omega);obtain ⟨t,ht⟩:=fx (l:=y) (k:=k) (by rw[HM.o];omega);obtain ⟨g,o,u1,rfl,x1,x2⟩:=HA.o k _ hs;obtain ⟨g',o',u2,rfl,y1,y2⟩:=jl.o k _ ht;obtain ⟨pu,cu,rfl,_⟩:=id x2;obtain ⟨pt,ct,rfl,_⟩:=id y2;have r0:=ae (aH.drew) (ae HB x1);have q0:=ae (aH.drew) (ae HB y1);have HX:=aa ((x2.keep (af HB)).keep (af aH.drew));have HY:=aa ((y2.keep (af HB)).keep (af aH.drew));have HS:=aa hs;have HT:=aa ht;clear hs ht x1 y1 x2 y2;obtain ⟨bb,iY⟩:=aG (nY s t);have uq:=aa iY;clear iY;go_wp2_with fail;go_region_held3 (fun w'=>w'.cell? ⟨g,o+k,none⟩=some (.slice pu s.length cu)∧w'.cell? ⟨g',o'+k,none⟩=some (.slice pt t.length ct))
   (first|exact ⟨r0,q0⟩|exact gq.o)
   (((with_reducible refine (xx s t _ _ _ HX.o HY.o).mono ?_);rintro e w1 ⟨rfl,hb⟩;rw[uq.o];have aY:=aa (ak HB.o.drew hb);have gq:=aa (show _∧_ from ⟨ae hb r0,ae hb q0⟩);clear hb))
  clear r0 q0;cases bb with
  |true=>
   go_wp2_with fail;go_roundw
   case rel=>
    refine ⟨k+1,by omega,by go_num,fun j hj=>?_,aY.o⟩;by_cases e:j=k
    ·subst e;rw[HS.o,HT.o];have:=uq.o;unfold nY at this;rw[of_decide_eq_true this]
    ·exact ed j (by omega)
   case measure=>simp[intOf];omega
  |false=>
   have HF:=aa (show kY x y=false by
    unfold kY;rw[decide_eq_false_iff_not];intro h;subst h;have h1:=HS.o;rw[HT.o] at h1;injection h1 with h1;subst h1;have:=uq.o;unfold nY at this;simp at this)
   go_wp2_with fail;go_ret;exact ⟨aN HF.symm,aY⟩
theorem Vf {en:Int} (h:¬(fD (a,b,c,d)=true∧en≤a)) (h0:0≤en):(b<1)∨(¬b<1∧8<b)∨(¬b<1∧¬8<b∧a<en)∨(¬b<1∧¬8<b∧¬a<en∧16-b<a)∨(¬b<1∧¬8<b∧¬a<en∧¬16-b<a∧c<0)∨(¬b<1∧¬8<b∧¬a<en∧¬16-b<a∧¬c<0∧1000000<c)∨(¬b<1∧¬8<b∧¬a<en∧¬16-b<a∧c=0∧d=false):=by
 unfold fD at h;simp only[decide_eq_true_eq] at h;cases d
 ·simp only[Bool.false_eq_true,imp_false,and_true] at h ⊢;omega
 ·simp only[implies_true,and_true,Bool.true_eq_false,and_false,or_false] at h ⊢;omega
theorem Rc {en:Int} (h:fD (a,b,c,d)=true∧en≤a):¬b<1∧¬8<b∧¬a<en∧¬16-b<a∧¬c<0∧¬1000000<c∧((c==0)=false∨c=0∧d=true)∧0≤a∧a+b≤16:=by
 unfold fD at h;simp only[decide_eq_true_eq] at h;refine ⟨by omega,by omega,by omega,by omega,by omega,by omega,?_,by omega,by omega⟩;by_cases e:c=0
 ·exact .inr ⟨e,h.1.2.2.2.2.2.2 e⟩
 ·exact .inl (by simpa using e)
theorem dN {x:Int} (h : -1000000000≤x) (h2:x≤1000000000):wrap64 x=x:=by unfold wrap64;omega
theorem nZ (l:List aj) (v1:Value) (w:World) (h1:dA w v1 l):Calls prog 119 #[v1] w fun e w'=>e=.returned (.bool (dE l))∧Bw w w':=by
 obtain ⟨p,cp,rfl,a1,a2,ha⟩:=h1;have HA:=aa ha;obtain ⟨N,hN⟩:=aG l.length;rw[hN] at a1;rw[hN];have hlc:=fG (n:=N) a2;have HN:=aa hN;clear ha hN a1 a2;go_enter func119,ntmps119;go_wp2_with fail;go_loopw [8,3] (fun i e wr=>∃(k:Nat) (en:Int),k≤N∧i=.int .i64 k∧e=.int .i64 en∧0≤en∧dE l=iq en (l.drop k)∧Bw w wr) (fun i _ _=>N-(intOf i).toNat)
 case atStart=>exact ⟨0,0,dO,rfl,rfl,Int.le_refl _,by rw[List.drop_zero];rfl,aH⟩
 case round=>
  obtain ⟨k,en,hk,rfl,rfl,h0,hall,hb⟩:=hrel;have ed:=aa hall;have HB:=aa hb;clear hall hb;by_cases hlt:k<N
  case neg=>
   obtain rfl:k=N:=by omega
   have HF:=aa (show dE l=true by rw[ed.o,Gl (by rw[HN.o];exact aT)]);go_wp2_with fail;go_ret;exact ⟨aN HF.symm,HB⟩
  have fN:(k:Int)<(N:Int):=by omega
  obtain ⟨⟨a,b,c,d⟩,hs⟩:∃s,l[k]?=some s:=⟨_,List.getElem?_eq_getElem (by rw[HN.o];omega)⟩
  obtain ⟨g,o,rfl,x1⟩:=HA.o k _ hs;obtain ⟨r0,r1,r2,r3⟩:=x1.keep (af HB);simp only at r0 r1 r2 r3;have HS:=aa hs;clear hs x1;by_cases fg:fD (a,b,c,d)=true∧en≤a
  case neg=>
   have HF:=aa (show dE l=false by rw[ed.o];exact zJ HS fg);have hc:=Vf fg h0;clear fg;have hwr:1≤b→b≤8→wrap64 (16-b)=16-b:=fun _ _=>dN (by omega) (by omega);have HW:=aa hwr;clear hwr;rcases hc with g1|⟨g1,g2⟩|⟨g1,g2,g3⟩|⟨g1,g2,g3,g4⟩|⟨g1,g2,g3,g4,g5⟩|⟨g1,g2,g3,g4,g5,g6⟩|⟨g1,g2,g3,g4,rfl,rfl⟩
   all_goals
    try have hw:=HW.o (by omega) (by omega)
    go_wp2_with fail;go_ret;exact ⟨aN HF.symm,HB.alloc HB.size _⟩
  case pos=>
   have HF:=aa (Ee HS fg.1 fg.2);obtain ⟨g1,g2,g3,g4,g5,g6,hc,g8,g9⟩:=Rc fg;clear fg;have hw:wrap64 (16-b)=16-b:=dN (by omega) (by omega);have hw2:wrap64 (a+b)=a+b:=dN (by omega) (by omega);have HE:=aa (show 0≤a+b by omega);clear h0 g8 g9;rcases hc with g7|⟨rfl,rfl⟩
   all_goals
    go_wp2_with fail;go_roundw
    case rel=>exact ⟨k+1,a+b,by omega,by go_num,by go_num,HE.o,by rw[ed.o,HF.o],HB.o.alloc HB.o.size _⟩
    case measure=>simp[intOf];omega
theorem Re (h:¬fD (a,b,c,d)=true):(b<1)∨(¬b<1∧8<b)∨(¬b<1∧¬8<b∧a<0)∨(¬b<1∧¬8<b∧¬a<0∧16<a)∨(¬b<1∧¬8<b∧¬a<0∧¬16<a∧16<a+b)∨(¬b<1∧¬8<b∧¬a<0∧¬16<a∧¬16<a+b∧c<0)∨(¬b<1∧¬8<b∧¬a<0∧¬16<a∧¬16<a+b∧¬c<0∧1000000<c)∨(¬b<1∧¬8<b∧¬a<0∧¬16<a∧¬16<a+b∧c=0∧d=false):=by
 unfold fD at h;simp only[decide_eq_true_eq] at h;cases d
 ·simp only[Bool.false_eq_true,imp_false,and_true] at h ⊢;omega
 ·simp only[implies_true,and_true,Bool.true_eq_false,and_false,or_false] at h ⊢;omega
theorem Nt (h:fD (a,b,c,d)=true):¬b<1∧¬8<b∧¬a<0∧¬16<a∧¬16<a+b∧¬c<0∧¬1000000<c∧((c==0)=false∨c=0∧d=true):=by
 unfold fD at h;simp only[decide_eq_true_eq] at h;refine ⟨by omega,by omega,by omega,by omega,by omega,by omega,by omega,?_⟩;by_cases e:c=0
 ·exact .inr ⟨e,h.2.2.2.2.2.2 e⟩
 ·exact .inl (by simpa using e)
def Rf (l:List aj) (k:Nat) (en:Int):Prop:=(k=0∧en=0)∨∃m ta tb tc td,k=m+1∧l[m]?=some (ta,tb,tc,td)∧en=ta+tb∧0≤ta∧1≤tb∧ta+tb≤16
theorem l9 (l:List aj) (v1:Value) (w:World) (h1:dA w v1 l):Calls prog 102 #[v1] w fun e w'=>e=.returned (.bool (dE l))∧Bw w w':=by
 obtain ⟨p,cp,rfl,a1,a2,ha⟩:=h1;have HA:=aa ha;obtain ⟨N,hN⟩:=aG l.length;rw[hN] at a1;rw[hN];have hlc:=fG (n:=N) a2;have HN:=aa hN;clear ha hN a1 a2;go_enter func102,ntmps102;go_wp2_with fail;go_loopw [3] (fun i wr=>∃(k:Nat) (en:Int),k≤N∧i=.int .i64 k∧Rf l k en∧dE l=iq en (l.drop k)∧Bw w wr) (fun i _=>N-(intOf i).toNat)
 case atStart=>exact ⟨0,0,dO,rfl,.inl ⟨rfl,rfl⟩,by rw[List.drop_zero];rfl,aH⟩
 case round=>
  obtain ⟨k,en,hk,rfl,Xq,hall,hb⟩:=hrel;have ed:=aa hall;have HB:=aa hb;have HPV:=aa Xq;clear hall hb Xq;by_cases hlt:k<N
  case neg=>
   obtain rfl:k=N:=by omega
   have HF:=aa (show dE l=true by rw[ed.o,Gl (by rw[HN.o];exact aT)]);go_wp2_with fail;go_ret;exact ⟨aN HF.symm,HB⟩
  have fN:(k:Int)<(N:Int):=by omega
  obtain ⟨⟨a,b,c,d⟩,hs⟩:∃s,l[k]?=some s:=⟨_,List.getElem?_eq_getElem (by rw[HN.o];omega)⟩
  obtain ⟨g,o,rfl,x1⟩:=HA.o k _ hs;obtain ⟨r0,r1,r2,r3⟩:=x1.keep (af HB);simp only at r0 r1 r2 r3;have HS:=aa hs;clear hs x1;by_cases fg:fD (a,b,c,d)=true
  case neg=>
   have HF:=aa (show dE l=false by rw[ed.o];exact zJ HS (fun h=>fg h.1));have hc:=Re fg;clear fg;have hwr:¬a<0→¬16<a→¬b<1→¬8<b→wrap64 (a+b)=a+b:=fun _ _ _ _=>dN (by omega) (by omega);have HW:=aa hwr;clear hwr;rcases hc with g1|⟨g1,g2⟩|⟨g1,g2,g3⟩|⟨g1,g2,g3,g4⟩|⟨g1,g2,g3,g4,g5⟩|⟨g1,g2,g3,g4,g5,g6⟩|⟨g1,g2,g3,g4,g5,g6,g7⟩|⟨g1,g2,g3,g4,g5,rfl,rfl⟩
   all_goals
    try have hw:=HW.o g3 g4 g1 g2
    go_wp2_with fail;go_ret;exact ⟨aN HF.symm,HB.alloc HB.size _⟩
  case pos=>
   obtain ⟨g1,g2,g3,g4,g5,g6,g7,hc⟩:=Nt fg;have hw:wrap64 (a+b)=a+b:=dN (by omega) (by omega);have pK:=aa (show Rf l (k+1) (a+b) from .inr ⟨k,a,b,c,d,rfl,HS,rfl,by omega,by omega,by omega⟩);have HG:=aa fg;clear fg;have hb1:Bw wr (wr.alloc (.cells #[.int .i64 a,.int .i64 b,.int .i64 c,.bool d] 52)):=ar;obtain ⟨W1,hW1⟩:=aG (wr.alloc (.cells #[.int .i64 a,.int .i64 b,.int .i64 c,.bool d] 52));have x0:W1.cell? ⟨wr.heap.size,0,none⟩=some (.int .i64 a):=by rw[← hW1];simp
   rw[hW1] at hb1;have aY:=aa hb1;have Fb:=aa x0;have ee:=aa hW1;have jl:=bh HB hb1;clear hW1 hb1 x0;rcases hc with g8|⟨rfl,rfl⟩
   all_goals
    go_upto_region 7 with fail;rw[ee.o];clear r0 r1 r2 r3 g1 g2 g3 g4 g5 g6 g7 hw;have x0:=Fb.o;have hlx:=World.block_lt_of_cell? _ _ x0;rcases HPV.o with ⟨rfl,rfl⟩|⟨m,ta,tb,tc,td,rfl,hm,rfl,t1,t2,t3⟩
    ·have hg3:decide (0<0)=false:=rfl
     have HF:=aa (Ee HS HG (show (0:Int)≤a by have:=HG.o;unfold fD at this;simp only[decide_eq_true_eq] at this;omega));go_quiet (fail);go_wp2_with fail;go_roundw
     case rel=>exact ⟨0+1,a+b,by omega,by go_num,pK.o,by rw[ed.o,HF.o],az jl.o _⟩
     case measure=>simp[intOf];omega
    ·obtain ⟨g',o',e,f1⟩:=HA.o m _ hm
     cases e;obtain ⟨y0,y1,_,_⟩:=(f1.keep (af HB)).keep (af aY);simp only at y0 y1;have e5:IntKind.i64.wrap (((m+1:Nat):Int)-1)=(m:Int):=by rw[IntKind.wrap_i64];omega
     have e6:(m:Int)<(N:Int):=(by omega);have e7:IntKind.i64.wrap (ta+tb)=ta+tb:=by rw[IntKind.wrap_i64];omega
     have hg3:decide (0<m+1)=true:=decide_eq_true (by omega);by_cases hle:ta+tb≤a
     ·have HF:=aa (Ee HS HG hle)
      have Xb:decide (a<ta+tb)=false:=decide_eq_false (by omega);clear hm f1 t1 t2 t3 hle;go_quiet (fail);go_wp2_with fail;go_roundw
      case rel=>exact ⟨m+1+1,a+b,by omega,by go_num,pK.o,by rw[ed.o,HF.o],az jl.o _⟩
      case measure=>simp[intOf];omega
     ·have HF:=aa (show dE l=false by rw[ed.o];exact zJ HS (fun h=>hle h.2))
      have Xb:decide (a<ta+tb)=true:=decide_eq_true (by omega);clear hm f1 t1 t2 t3 hle;go_quiet (fail);go_wp2_with fail;go_ret;exact ⟨aN HF.symm,az jl _⟩
def cI (c:List (List aj)):Bool:=c.all dE&&decide (1≤c.length∧c.length≤1000)
theorem zK (x:List (List aj)) (v1:Value) (w:World) (h1:dH w v1 x):Calls prog 50 #[v1] w fun e w'=>e=.returned (.bool (cI x))∧Bw w w':=by
 obtain ⟨p,cp,rfl,a1,a2,ha⟩:=h1;have HA:=aa ha;obtain ⟨N,hN⟩:=aG x.length;rw[hN] at a1;rw[hN];have hlc:=fG (n:=N) a2;have HN:=aa hN;clear ha hN a1 a2;go_enter func50,ntmps50;go_wp2_with fail;go_loopw [3] (fun i wr=>∃k:Nat,k≤N∧i=.int .i64 k∧(∀(j:Nat) t,j<k→x[j]?=some t→dE t=true)∧Bw w wr) (fun i _=>N-(intOf i).toNat)
 case atStart=>exact ⟨0,dO,rfl,fun j _ hj=>by omega,aH⟩
 case round=>
  obtain ⟨k,hk,rfl,hall,hb⟩:=hrel;have ed:=aa hall;have HB:=aa hb;clear hall hb;by_cases hlt:k<N
  case neg=>
   obtain rfl:k=N:=by omega
   have HF:=aa (show cI x=decide (1≤k∧k≤1000) by
    unfold cI;rw[show x.all dE=true from List.all_eq_true.2 fun t ht=>by
     obtain ⟨j,hj⟩:=List.getElem?_of_mem ht;exact ed.o j t (by have:=(List.getElem?_eq_some_iff.1 hj).1;rw[HN.o] at this;exact this) hj,HN.o,Bool.true_and])
   have hc:¬(1:Int)≤(k:Int)∨((1:Int)≤(k:Int)∧(k:Int)≤1000)∨((1:Int)≤(k:Int)∧¬(k:Int)≤1000):=(by omega);rcases hc with c1|⟨c1,c2⟩|⟨c1,c2⟩
   all_goals
    have HC:=aa c1
    try have pB:=aa c2
    go_wp2_with fail;go_ret;refine ⟨aN ?_,HB⟩;rw[HF.o]
   ·exact (decide_eq_false (by have:=HC.o;omega)).symm
   ·exact (decide_eq_true (by have:=HC.o;have:=pB.o;omega)).symm
   ·exact (decide_eq_false (by have:=pB.o;omega)).symm
  have fN:(k:Int)<(N:Int):=by omega
  obtain ⟨s,hs⟩:=fx (l:=x) (k:=k) (by rw[HN.o];omega);obtain ⟨g,o,u1,rfl,x1,x2⟩:=HA.o k _ hs;obtain ⟨pu,cu,rfl,_⟩:=id x2;have r0:=ae HB x1;have HX:=aa (x2.keep (af HB));have HS:=aa hs;clear hs x1 x2;obtain ⟨bb,iY⟩:=aG (dE s);have uq:=aa iY;clear iY;go_wp2_with fail;refine (l9 s _ _ HX).mono ?_;rintro e w1 ⟨rfl,hb⟩;rw[uq.o];have aY:=bh HB hb;clear hb r0;cases bb with
  |true=>
   go_wp2_with fail;go_roundw
   case rel=>
    refine ⟨k+1,by omega,by go_num,fun j t hj ht=>?_,aY.o⟩;by_cases e:j=k
    ·subst e;rw[HS.o] at ht;cases ht;exact uq.o
    ·exact ed j t (by omega) ht
   case measure=>simp[intOf];omega
  |false=>
   have HF:=aa (show cI x=false by
    unfold cI;rw[show x.all dE=false from by rw[← Bool.not_eq_true,List.all_eq_true];intro h;have:=h s (List.mem_of_getElem? HS);rw[uq.o] at this;simp at this];rfl)
   go_wp2_with fail;go_ret;exact ⟨aN HF.symm,aY⟩
end Go.Proofs.YtbigkioechkngaaGreat
