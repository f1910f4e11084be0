/- The proof, part 8. -/
import Derived.Test.YtbigkioechkngaaGreatR4
set_option maxRecDepth 100000
set_option maxHeartbeats 8000000
namespace Go.Proofs.YtbigkioechkngaaGreat
open Go.RowKit Tryz
variable {a:Addr}{c:Int}{l:List dx}{B k:Nat}{u u0 u1 u2 u3 v x y z:Value}{W:World}
def dg (w:World) (l:List dx) (c:Int) (e:Ending) (w':World):Prop:=match bX l c with
 |none=>e=.returned (.tuple #[.slice none 0 0,.bool false])∧Bw w w'
 |some T=>∃v,e=.returned (.tuple #[v,.bool true])∧dH w' v T∧Bw w w'
theorem dg.no {w w':World} (h:bX l c=none) (hb:Bw w w'):dg w l c (.returned (.tuple #[.slice none 0 0,.bool false])) w':=by unfold dg;rw[h];exact ⟨rfl,hb⟩
theorem dg.yes {w w':World} {T:List (List aj)} (h:bX l c=some T) (ht:dH w' v T) (hb:Bw w w'):dg w l c (.returned (.tuple #[v,.bool true])) w':=by unfold dg;rw[h];exact ⟨v,rfl,ht,hb⟩
theorem xJ (h:c<1):bX l c=none:=by unfold bX;rw[if_neg (by omega)]
theorem uJ (h:1000<c):bX l c=none:=by unfold bX;rw[if_neg (by omega)]
theorem xK (h:dP l=false):bX l c=none:=by unfold bX;rw[if_neg (by rw[h];simp)]
theorem Al {n:Nat} (h1:1≤n) (h2:n≤1000) (h:dP l=true):bX l n=match fY n (List.replicate n []) (aX l) with
 |none=>none
 |some T=>if T.all dE=true then some T else none:=by unfold bX;rw[if_pos ⟨by omega,by omega,h⟩];rfl
def adr (w w4:World) (n g N:Nat) (C:List ay) (i:Value) (wr:World):Prop:=
 ∃(k:Nat) (T:List (List aj)),k≤N∧i=.int .i64 k∧fH wr g w4.heap.size g n T∧(∀t∈T,t.length≤k)∧fY n (List.replicate n []) C=fY n T (C.drop k)∧Ub g w4 wr∧Bw w wr∧w4.heap.size≤wr.heap.size
def XI (w:World) (D n g:Nat) (T:List (List aj)) (i:Value) (wr:World):Prop:=
 ∃k:Nat,k≤n∧i=.int .i64 k∧fH wr g D g n T∧(∀(j:Nat) t,j<k→T[j]?=some t→dE t=true)∧Bw w wr
theorem CR {T:List (List aj)} {c:Nat} {t:List aj} {u:aj} (h:∀t∈T,t.length≤k) (ht:t∈T):∀x∈T.set c (t++[u]),x.length≤k+1:=fun x hx=>by
 rcases List.mem_or_eq_of_mem_set hx with hx|rfl
 ·have:=h x hx;omega
 ·have:=h t ht;simp;omega
theorem Mq {n:Int} (h:rX n=true) : -9223372036854775808≤n∧n≤9223372036854775807∧0≤(bI n).chunk∧(bI n).chunk≤999∧1≤(bI n).size∧(bI n).size≤256∧0≤(bI n).pos:=by have h1:=Ef h;unfold rX at h;simp only[Bool.and_eq_true] at h;have h2:=(bL _).1 h.2;omega
def fQ (W:World) (B:Nat) (u0 u1 u2 u3:Value):Prop:=W.heap[B]?=some (.cells #[u0,u1,u2,u3] 52 (0,0))
theorem fQ.lt (h:fQ W B u0 u1 u2 u3):B<W.heap.size:=(Array.getElem?_eq_some_iff.1 h).1
theorem fQ.cells (h:fQ W B u0 u1 u2 u3):W.cell? ⟨B,0,none⟩=some u0∧W.cell? ⟨B,1,none⟩=some u1∧W.cell? ⟨B,2,none⟩=some u2∧W.cell? ⟨B,3,none⟩=some u3:=by simp[World.cell?,show W.heap[B]?=_ from h]
theorem fQ.frozen (h:fQ W B u0 u1 u2 u3) (j:Nat):W.frozen? ⟨B,j,none⟩=false:=by simp[World.frozen?,show W.heap[B]?=_ from h]
theorem fQ.new (W:World) (u0 u1 u2 u3:Value):fQ (W.alloc (.cells #[u0,u1,u2,u3] 52)) W.heap.size u0 u1 u2 u3:=World.alloc_heap_new _ _
theorem fQ.low {W':World} {D:Nat} (h:fQ W B u0 u1 u2 u3) (hb:Below D W W') (hD:B<D):fQ W' B u0 u1 u2 u3:=(hb.block B hD).trans h
theorem fQ.qw (v:Value) (h:fQ W B u0 u1 u2 u3):fQ (W.setCell ⟨B,0,none⟩ v) B v u1 u2 u3:=by obtain ⟨hlt,hk⟩:=Array.getElem?_eq_some_iff.1 h;show (W.heap.modify B _)[B]?=_;rw[Array.getElem?_eq_getElem (by rw[Array.size_modify];exact hlt),Array.getElem_modify_self,hk];rfl
theorem fQ.zw (v:Value) (h:fQ W B u0 u1 u2 u3):fQ (W.setCell ⟨B,1,none⟩ v) B u0 v u2 u3:=by obtain ⟨hlt,hk⟩:=Array.getElem?_eq_some_iff.1 h;show (W.heap.modify B _)[B]?=_;rw[Array.getElem?_eq_getElem (by rw[Array.size_modify];exact hlt),Array.getElem_modify_self,hk];rfl
theorem fQ.yt (v:Value) (h:fQ W B u0 u1 u2 u3):fQ (W.setCell ⟨B,2,none⟩ v) B u0 u1 v u3:=by obtain ⟨hlt,hk⟩:=Array.getElem?_eq_some_iff.1 h;show (W.heap.modify B _)[B]?=_;rw[Array.getElem?_eq_getElem (by rw[Array.size_modify];exact hlt),Array.getElem_modify_self,hk];rfl
theorem fQ.ajn (v:Value) (h:fQ W B u0 u1 u2 u3):fQ (W.setCell ⟨B,3,none⟩ v) B u0 u1 u2 v:=by obtain ⟨hlt,hk⟩:=Array.getElem?_eq_some_iff.1 h;show (W.heap.modify B _)[B]?=_;rw[Array.getElem?_eq_getElem (by rw[Array.size_modify];exact hlt),Array.getElem_modify_self,hk];rfl
theorem fQ.set (v0 v1 v2 v3:Value) (h:fQ W B u0 u1 u2 u3):fQ ((((W.setCell ⟨B,0,none⟩ v0).setCell ⟨B,1,none⟩ v1).setCell ⟨B,2,none⟩ v2).setCell ⟨B,3,none⟩ v3) B v0 v1 v2 v3:=
 (((h.qw v0).zw v1).yt v2).ajn v3
theorem RR {v0 v1 v2 v3:Value} (h:W.cell? a=some u) (hne:a.block≠B):((((W.setCell ⟨B,0,none⟩ v0).setCell ⟨B,1,none⟩ v1).setCell ⟨B,2,none⟩ v2).setCell ⟨B,3,none⟩ v3).cell? a=some u:=
 lx (lx (lx (lx h hne) hne) hne) hne
theorem iy {W':World} (hb:Bw W W') {b c d e:Addr} (h:W.cell? a=some u∧W.cell? b=some v∧W.cell? c=some x∧W.cell? d=some y∧W.cell? e=some z):W'.cell? a=some u∧W'.cell? b=some v∧W'.cell? c=some x∧W'.cell? d=some y∧W'.cell? e=some z:=
 ⟨ae hb h.1,ae hb h.2.1,ae hb h.2.2.1,ae hb h.2.2.2.1,ae hb h.2.2.2.2⟩
theorem G4 {p q:Nat} {i j l m:Nat} {v0 v1 v2 v3:Value} (hp:p≠B) (hq:q≠B) (h:W.cell? ⟨p,i,none⟩=some u∧W.cell? ⟨p,j,none⟩=some v∧W.cell? ⟨p,k,none⟩=some x∧W.cell? ⟨p,l,none⟩=some y∧W.cell? ⟨q,m,none⟩=some z) :
 ((((W.setCell ⟨B,0,none⟩ v0).setCell ⟨B,1,none⟩ v1).setCell ⟨B,2,none⟩ v2).setCell ⟨B,3,none⟩ v3).cell? ⟨p,i,none⟩=some u∧((((W.setCell ⟨B,0,none⟩ v0).setCell ⟨B,1,none⟩ v1).setCell ⟨B,2,none⟩ v2).setCell ⟨B,3,none⟩ v3).cell? ⟨p,j,none⟩=some v∧((((W.setCell ⟨B,0,none⟩ v0).setCell ⟨B,1,none⟩ v1).setCell ⟨B,2,none⟩ v2).setCell ⟨B,3,none⟩ v3).cell? ⟨p,k,none⟩=some x∧((((W.setCell ⟨B,0,none⟩ v0).setCell ⟨B,1,none⟩ v1).setCell ⟨B,2,none⟩ v2).setCell ⟨B,3,none⟩ v3).cell? ⟨p,l,none⟩=some y∧((((W.setCell ⟨B,0,none⟩ v0).setCell ⟨B,1,none⟩ v1).setCell ⟨B,2,none⟩ v2).setCell ⟨B,3,none⟩ v3).cell? ⟨q,m,none⟩=some z:=
 ⟨RR h.1 hp,RR h.2.1 hp,RR h.2.2.1 hp,RR h.2.2.2.1 hp,RR h.2.2.2.2 hq⟩
theorem vU {c p q:Nat} {i j l m:Nat} {r:Value} (hp:p≠B) (hq:q≠B) (h:W.cell? ⟨p,i,none⟩=some u∧W.cell? ⟨p,j,none⟩=some v∧W.cell? ⟨p,k,none⟩=some x∧W.cell? ⟨p,l,none⟩=some y∧W.cell? ⟨q,m,none⟩=some z) :
 (W.setCell ⟨B,c,none⟩ r).cell? ⟨p,i,none⟩=some u∧(W.setCell ⟨B,c,none⟩ r).cell? ⟨p,j,none⟩=some v∧(W.setCell ⟨B,c,none⟩ r).cell? ⟨p,k,none⟩=some x∧(W.setCell ⟨B,c,none⟩ r).cell? ⟨p,l,none⟩=some y∧(W.setCell ⟨B,c,none⟩ r).cell? ⟨q,m,none⟩=some z:=
 ⟨lx h.1 hp,lx h.2.1 hp,lx h.2.2.1 hp,lx h.2.2.2.1 hp,lx h.2.2.2.2 hq⟩
theorem mq {b c d e:Addr} (o:Obj) (h:W.cell? a=some u∧W.cell? b=some v∧W.cell? c=some x∧W.cell? d=some y∧W.cell? e=some z):(W.alloc o).cell? a=some u∧(W.alloc o).cell? b=some v∧(W.alloc o).cell? c=some x∧(W.alloc o).cell? d=some y∧(W.alloc o).cell? e=some z:=
 have hb:Bw W (W.alloc o):=aH.alloc aT o
 ⟨ae hb h.1,ae hb h.2.1,ae hb h.2.2.1,ae hb h.2.2.2.1,ae hb h.2.2.2.2⟩
theorem Ki (l:List dx) (c:Int) (v1:Value) (w:World) (h1:eQ w v1 l) (l1:zF l) (l2:dP l=true→(cY l).length≤600000):Calls prog 64 #[v1,.int .i64 c] w (dg w l c):=by
 have HV:=aa h1;have xg:=aa l1;have nP:=aa l2;have uH:=aa (fun W (h:Bw w W)=>Cx l v1 W (h1.keep (af h)) l1);obtain ⟨p,cp,rfl,a1,a2,ha⟩:=h1;obtain ⟨nl,rM⟩:∃N,l.length=N:=⟨_,rfl⟩
 rw[rM] at a1 HV uH;rw[rM];clear ha a1 a2 l1 l2 rM;by_cases h1:c<1
 ·have HF:=aa (xJ (l:=l) h1)
  go_enter func64,ntmps64;go_wp2_with fail;refine au (dg.no HF aH) ?_;simp[results,results64,go_sem]
 by_cases h2:(1000:Int)<c
 ·have HF:=aa (uJ (l:=l) h2)
  go_enter func64,ntmps64;go_wp2_with fail;refine au (dg.no HF aH) ?_;simp[results,results64,go_sem]
 cases hm:dP l with
 |false=>have HF:=aa (xK (c:=c) hm);have HM:=aa hm;clear hm;go_enter func64,ntmps64;go_wp2_with fail;refine (uH _ aH).mono ?_;rintro e w1 ⟨rfl,hb⟩;rw[HM.o];have HB:=aa hb;clear hb;go_wp2_with fail;refine au (dg.no HF HB) ?_;simp[results,results64,go_sem]
 |true=>
 obtain ⟨n,rfl⟩:∃n:Nat,c=n:=⟨c.toNat,by omega⟩
 have HN:=aa (show 1≤n∧n≤1000 by omega);have HF:=aa (Al HN.1 HN.2 hm);have HM:=aa hm;have BG:=aa (vM hm);clear hm;go_enter func64,ntmps64;go_wp2_with fail;refine (uH _ aH).mono ?_;rintro e w2 ⟨rfl,hb⟩;rw[HM.o];have bS:=aa hb;clear hb;obtain ⟨w3,jJ,lX,hb3⟩:=zU w2 n HN.2;obtain ⟨g,hg⟩:=aG w2.heap.size;rw[hg] at jJ lX hb3;have qi:=aa lX;have dF:=aa (show Bw w w3 from bS.trans (hb3.mono (by rw[← hg];exact bS.size)));have HG:=aa (show g<w3.heap.size from ((lX 0).choose_spec.2.2.1.lt g rfl).2);have HWG:=aa (show w.heap.size≤g by rw[← hg];exact bS.size);clear lX hb3 hg h1 h2;obtain ⟨C,hC⟩:=aG (aX l);have tk:=aa (show C.length≤600000 by rw[← hC];exact tC nP);rw[hC] at HF BG;have HC:=aa hC;clear hC;go_wp2_with (go_at_call 74;(refine (uB l _ _ (HV.o.keep (af dF.o)) xg.o nP.o).mono ?_);rintro e w4 ⟨v4,rfl,YR,Qg,hb4⟩;rw[HC.o] at YR;have HP:=aa YR;obtain ⟨pq,cq,rfl,b1,b2,QQ⟩:=YR;obtain ⟨N,hN⟩:=aG C.length;rw[hN] at b1 HP Qg tk;rw[hN];have HNC:=aa hN;have HPA:=aa QQ;have Q6:=aa Qg;have fW:=aa hb4;have hlc:(N:Int)≤9223372036854775807:=(by unfold maxLen at b2;omega);clear hN QQ Qg hb4 b1 b2);have pG:=aa (show fH w4 g w4.heap.size g n (List.replicate n []) from (qi _).below fW);have bp:=aa (ak dF fW);have Qj:=aa (show g<w4.heap.size from Nat.lt_of_lt_of_le HG fW.size);clear jJ HV uH;go_loopw [30] (fun i wr=>adr w w4 n g N C i wr) (fun i _=>N-(intOf i).toNat)
 case atStart=>exact ⟨0,_,dO,rfl,pG,fun t ht=>by rw[List.mem_replicate] at ht;rw[ht.2];exact dO,by rw[List.drop_zero],Ub.refl _ _,bp,aT⟩
 case round=>
  obtain ⟨k,T,hk,rfl,Mr,hlt,htg,RS,hb,hsz⟩:=hrel;have Jq:=aa Mr;have Vj:=aa hlt;have YS:=aa htg;have G5:=aa RS;have zr:=aa hb;have mN:=aa hsz;clear Mr hlt htg RS hb hsz pG;by_cases hlt:k<N
  case neg=>
   obtain rfl:k=N:=by omega
   have Q1:decide ((k:Int)<(k:Int))=false:=(by simp);have Fc:=aa (show bX l n=if T.all dE=true then some T else none by
    rw[HF.o,YS.o,List.drop_of_length_le (by rw[HNC.o];exact aT)];rfl)
   have Uc:(n:Int)≤9223372036854775807:=by have:=HN.o;omega
   go_wp2_with fail;go_loopw [70] (fun i wr=>XI w w4.heap.size n g T i wr) (fun i _=>n-(intOf i).toNat)
   case atStart=>exact ⟨0,dO,rfl,Jq,fun j t hj=>by omega,zr⟩
   case round=>
    obtain ⟨j,hj,rfl,Mr,hall,hb⟩:=hrel;have Nk:=aa Mr;have pN:=aa hall;have T7:=aa hb;clear Mr hall hb;by_cases iZ:j<n
    case neg=>
     obtain rfl:j=n:=by omega
     have acT:decide ((j:Int)<(j:Int))=false:=(by simp);have HQ:=aa (show bX l j=some T by
      rw[Fc.o,if_pos];rw[List.all_eq_true];intro t ht;obtain ⟨i,hi⟩:=List.getElem?_of_mem ht;exact pN i t (by have:=(List.getElem?_eq_some_iff.1 hi).1;rw[Nk.o.len] at this;exact this) hi)
     go_wp2_with fail;refine au (dg.yes HQ (Nk.at HN.2) T7) ?_;simp[results,results64,go_sem]
    case pos=>
     have Gg:(j:Int)<(n:Int):=(by omega);have YT:=ux hj (show n≤1000000 by have:=HN.o;omega);obtain ⟨t,ht⟩:=fx (l:=T) (k:=j) (by rw[Nk.o.len];exact iZ);obtain ⟨r,hr,UL⟩:=Nk.one ht;have HU:=aa (fj UL);have HT:=aa ht;clear UL ht;cases vV:dE t with
     |false=>
      have Am:=aa vV;clear vV;have HQ:=aa (show bX l n=none by
       rw[Fc.o,if_neg];rw[List.all_eq_true];intro h;have:=h t (List.mem_of_getElem? HT);rw[Am.o] at this;exact absurd this (by simp))
      go_wp2_with (go_at_call 119;(refine (nZ t _ _ HU.o).mono ?_);rintro e w6 ⟨rfl,cV⟩;rw[Am.o];have cU:=aa cV;clear cV);refine au (dg.no HQ (ak T7 cU)) ?_;simp[results,results64,go_sem]
     |true=>
      have Am:=aa vV;clear vV;go_wp2_with (go_at_call 119;(refine (nZ t _ _ HU.o).mono ?_);rintro e w6 ⟨rfl,cV⟩;rw[Am.o];have cU:=aa cV;clear cV);go_roundw
      case rel=>exact ⟨j+1,by omega,by go_num,Nk.o.below cU.o,fun i x hi hx=>by
       by_cases e:i=j
       ·subst e;rw[HT.o] at hx;cases hx;exact Am.o
       ·exact pN.o i x (by omega) hx,ak T7.o cU.o⟩
      case measure=>first|exact dQ iZ|(have hm:=dQ iZ;rw[← YT] at hm;exact hm)
  case pos=>
   have fN:(k:Int)<(N:Int):=(by omega);have Ql:=ux hk (show N≤1000000 by have:=tk.o;omega);obtain ⟨⟨q1,q2⟩,ht⟩:∃t,C[k]?=some t:=⟨_,List.getElem?_eq_getElem (by rw[HNC.o];exact hlt)⟩
   have o1:=(BG.o _ (List.mem_of_getElem? ht)).1;simp only at o1;have Fh:=aa (Mq o1);obtain ⟨gp,op,rfl,y0,y1⟩:=HPA.o k _ ht;simp only at y0 y1;have Qf:g<gp:=by have:=Q6.o gp rfl;have:=HG.o;omega
   replace y0:=G5.cell y0 Qf;replace y1:=G5.cell y1 Qf;obtain ⟨⟨ch,po,sz,pk⟩,hr⟩:∃r,bI q1=r:=⟨_,rfl⟩
   rw[hr] at Fh;obtain ⟨cn,rfl⟩:∃cn:Nat,ch=cn:=⟨ch.toNat,by have:=Fh.o;simp only at this;omega⟩
   have Jr:=aa (show JL q1=⟨cn,po,sz,pk⟩ by unfold JL;rw[if_pos o1];exact hr);have si:=aa ht;have Jl:=aa o1;have G6:=aa hr;clear ht o1 hr Qf;obtain ⟨W1,hW1⟩:=aG (wr.alloc (.cells #[.int .i64 q1,.int .i64 q2] 82));have aY:=aa (show Bw wr W1 by rw[← hW1];exact ar);have aU:=aa (show W1.cell? ⟨wr.heap.size,0,none⟩=some (.int .i64 q1)∧W1.cell? ⟨wr.heap.size,1,none⟩=some (.int .i64 q2) by rw[← hW1];exact ⟨by simp,by simp⟩);have ee:=aa hW1;clear hW1;go_upto_region 7 with fail;rw[ee.o];clear y0 y1 ee;obtain ⟨x0,x1⟩:=aU.o;go_upto_region 8 with (go_at_call 75;(refine (vB q1 Fh.o.1 Fh.o.2.1 _).mono ?_);rintro e w5 ⟨rfl,aR⟩;rw[Jr.o,Jl.o];simp only[aB.agg];have RT:=bh aY aR;have fK:=aa (ae aR aU.o.2);clear aR);obtain ⟨W6,rN⟩:=aG (w5.alloc (.cells #[.int .i64 cn,.int .i64 po,.int .i64 sz,.bool pk] 50));have cV:Bw w5 W6:=by rw[← rN];exact ar
   have cU:=aa (ak RT cV);have rH:=aa (show kT w5.heap.size cn po sz pk W6 by rw[← rN];exact ⟨by simp,by simp,by simp,by simp⟩);have kS:=aa (ae cV fK);rw[rN];clear rN cV x0 x1;have r0:=rH.1;by_cases QL:cn<n
   case neg=>
    have RU:(n:Int)≤(cn:Int):=(by omega);have HQ:=aa (show bX l n=none by
     rw[HF.o,YS.o,oT si.o,if_neg];unfold mf;rw[G6.o];simp only[Bool.and_eq_true,decide_eq_true_eq];omega)
    go_wp2_with fail;refine au (dg.no HQ (ak zr cU)) ?_;simp[results,results64,go_sem]
   case pos=>
   have RU:(cn:Int)<(n:Int):=(by omega);obtain ⟨L,hL⟩:=aG (cg sz);have rC:=aa hL;have fJ:=aa (show (-1000000:Int)≤sz∧sz≤1000000 by have:=Fh.o;simp only at this;omega);clear hL;go_upto_region 10 with fail;clear r0;have hdr:Bw W6 W6.drew:=aH.drew;obtain ⟨r0,r1,r2,r3⟩:=rH.below hdr;have x1:=ae hdr kS.o;clear hdr;obtain ⟨WA,kK⟩:∃W,(W6.alloc (.cells #[.int .i64 0,.int .i64 0,.int .i64 0,.bool false] 52)).drew=W:=⟨_,rfl⟩
   have hbA:Bw W6 WA:=by rw[← kK];exact (ar).drew
   have gq:=aa (iy hbA ⟨rH.1,rH.2.1,rH.2.2.1,rH.2.2.2,kS⟩);have HUA:=aa (show fQ WA W6.heap.size (.int .i64 0) (.int .i64 0) (.int .i64 0) (.bool false) by rw[← kK];exact fQ.new W6 _ _ _ _);have yq:=aa hbA;have Qx:=aa (show w5.heap.size≠W6.heap.size∧wr.heap.size≠W6.heap.size from ⟨fun e=>by have:=World.block_lt_of_cell? _ _ rH.1;simp only at this;omega,fun e=>by have:=World.block_lt_of_cell? _ _ kS.o;simp only at this;omega⟩);rw[← kK] at gq HUA yq;clear hbA;clear kK;go_region_held3 (fun w'=>w'.cell? ⟨w5.heap.size,0,none⟩=some (.int .i64 cn)∧w'.cell? ⟨w5.heap.size,1,none⟩=some (.int .i64 po)∧w'.cell? ⟨w5.heap.size,2,none⟩=some (.int .i64 sz)∧w'.cell? ⟨w5.heap.size,3,none⟩=some (.bool pk)∧w'.cell? ⟨wr.heap.size,1,none⟩=some (.int .i64 q2))
    (first|with_reducible exact ⟨r0,r1,r2,r3,x1⟩|with_reducible exact gq.o|with_reducible exact sj.o|with_reducible exact mq _ sj.o|with_reducible exact G4 Qx.o.1 Qx.o.2 sj.o)
    (first|((with_reducible refine (wY cn po sz L pk fJ.o.1 fJ.o.2 rC.o W6.drew).mono ?_);rintro e w7 ⟨rfl,dL⟩;have sj:=aa (iy dL ⟨r0,r1,r2,r3,x1⟩);have fw:=aa (show Bw W6 w7 from ak aH.drew dL);clear dL)|((with_reducible refine (wY cn po sz L pk fJ.o.1 fJ.o.2 rC.o (W6.alloc (.cells #[.int .i64 0,.int .i64 0,.int .i64 0,.bool false] 52)).drew).mono ?_);rintro e w7 ⟨rfl,dL⟩;have sj:=aa (iy dL gq.o);have YU:=aa (HUA.o.low dL HUA.o.lt);have fw:=aa (show Bw W6 w7 from ak yq.o dL);obtain ⟨d0,d1,d2,d3⟩:=YU.o.cells;have f0:=YU.o.frozen 0;have f1:=YU.o.frozen 1;have f2:=YU.o.frozen 2;have f3:=YU.o.frozen 3;clear dL))
   all_goals
    first
    |(obtain ⟨bu,YV⟩:∃b,W6.heap.size=b:=⟨_,rfl⟩
      have YW:=YU.set (.int .i64 po) (.int .i64 L) (.int .i64 q2) (.bool true);have QD:=G4 (v0:=.int .i64 po) (v1:=.int .i64 L) (v2:=.int .i64 q2) (v3:=.bool true) Qx.1 Qx.2 sj.o;have BH:=eM (eM (eM (eM fw 0 (.int .i64 po)) 1 (.int .i64 L)) 2 (.int .i64 q2)) 3 (.bool true);obtain ⟨W8,lK⟩:∃W,(((w7.setCell ⟨W6.heap.size,0,none⟩ (.int .i64 po)).setCell ⟨W6.heap.size,1,none⟩ (.int .i64 L)).setCell ⟨W6.heap.size,2,none⟩ (.int .i64 q2)).setCell ⟨W6.heap.size,3,none⟩ (.bool true)=W:=⟨_,rfl⟩
      rw[lK] at YW QD BH ⊢;have HBU:=aa (show W6.heap.size≤bu from Nat.le_of_eq YV);rw[YV] at YW ⊢;clear lK YV d0 d1 d2 d3 f0 f1 f2 f3 YU)
    |(obtain ⟨bu,YV⟩:∃b,w7.heap.size=b:=⟨_,rfl⟩
      have YW:=fQ.new w7 (.int .i64 po) (.int .i64 L) (.int .i64 q2) (.bool true);have QD:=mq (.cells #[.int .i64 po,.int .i64 L,.int .i64 q2,.bool true] 52) sj.o;have BH:=fw.alloc fw.size (.cells #[.int .i64 po,.int .i64 L,.int .i64 q2,.bool true] 52);obtain ⟨W8,lK⟩:∃W,w7.alloc (.cells #[.int .i64 po,.int .i64 L,.int .i64 q2,.bool true] 52)=W:=⟨_,rfl⟩
      rw[lK] at YW QD BH ⊢;have HBU:=aa (show W6.heap.size≤bu by rw[← YV];exact fw.size);rw[YV] at YW ⊢;clear lK YV)
    have HU8:=aa YW;have CQ:=aa QD;have gI:=bh cU BH;clear YW QD BH r0 r1 r2 r3 x1 gq HUA yq sj fw;obtain ⟨t,ht⟩:=fx (l:=T) (k:=cn) (by rw[Jq.o.len];exact QL);obtain ⟨r,c1,g9,c9,w9,hrun,vW,F6,Ao,kn,gO⟩:=vL wr W8.drew g w4.heap.size g n cn T t (po,L,q2,true) (ak gI aH.drew) Jq ht (by have:=Vj.o t (List.mem_of_getElem? ht);have:=tk.o;omega) mN.o;obtain ⟨tl,VB⟩:∃n,t.length+1=n:=⟨_,rfl⟩
    rw[VB] at hrun Ao;have dJ:=aa hrun;have NS:=aa Ao;have c2:(W8.alloc (.cells #[.int .i64 po,.int .i64 L,.int .i64 q2,.bool true] 52)).drew.cell? ⟨g,cn,none⟩=some r:=ae aH.drew (ae (ar) (show W8.cell? ⟨g,cn,none⟩=some r from c1));have VC:=HU8.cells;have hs0:=iy (show Bw W8 W8.drew from aH.drew) ⟨VC.1,VC.2.1,VC.2.2.1,VC.2.2.2,CQ.1⟩;have lZ:=aa (iy (show Bw W8 (W8.alloc (.cells #[.int .i64 po,.int .i64 L,.int .i64 q2,.bool true] 52)).drew from (ar).drew) ⟨VC.1,VC.2.1,VC.2.2.1,VC.2.2.2,CQ.1⟩);have zt:wr.heap.size≤bu:=Nat.le_trans cU.size HBU.o;have adv:wr.heap.size≤w5.heap.size:=RT.size;have U2:g<wr.heap.size:=Nat.lt_of_lt_of_le Qj mN.o;have zu:=aa (And.intro (gO _ _ zt hs0.1) (And.intro (gO _ _ zt hs0.2.1) (And.intro (gO _ _ zt hs0.2.2.1) (And.intro (gO _ _ zt hs0.2.2.2.1) (gO _ _ adv hs0.2.2.2.2)))));have Qn:=aa (show bu≠g∧w5.heap.size≠g from ⟨by omega,by omega⟩);have CS:=aa (show Ub g w4 (w9.setCell ⟨g,cn,none⟩ (.slice (some ⟨g9,0,none⟩) tl c9)) from G5.step mN (show Bw wr W8.drew from ak gI aH.drew) aT kn);have ke:=aa (show Bw w (w9.setCell ⟨g,cn,none⟩ (.slice (some ⟨g9,0,none⟩) tl c9)) from ((zr.trans ((ak gI aH.drew).mono zr.size)).trans (kn.mono bp.size)).grown (av w9 g cn _) (Nat.le_trans zr.size (Nat.le_trans gI.size kn.size)) (fun k e=>by cases e;exact HWG));have NT:=aa (show w4.heap.size≤(w9.setCell ⟨g,cn,none⟩ (.slice (some ⟨g9,0,none⟩) tl c9)).heap.size from Nat.le_trans mN (Nat.le_trans gI.size (Nat.le_trans kn.size (av w9 g cn _).size)));have RV:=aa (CR (c:=cn) (u:=(po,L,q2,true)) Vj (List.mem_of_getElem? ht));have RX:=aa (show fY n (List.replicate n []) C=fY n (T.set cn (t++[(po,L,q2,true)])) (C.drop (k+1)) by
     rw[YS.o,oT si.o,if_pos (by unfold mf;rw[G6.o,Jl.o];simp only[Bool.true_and,decide_eq_true_eq];exact RU)];unfold sG fP qF;simp only[G6.o,rC.o,Int.toNat_natCast,ht,Option.getD_some])
    clear hrun Ao kn gO VC zt adv U2;go_wp2_with fail;obtain ⟨u0,u1,u2,u3,x0⟩:=hs0;obtain ⟨s0,s1,s2,s3,y0⟩:=lZ.o;have z0:=zu.2.2.2.2;go_region_law (refine bD rfl _ _ _ rfl rfl rfl dJ.o ?_)
    all_goals
     go_wp2_with fail;go_roundw
     case rel=>exact ⟨k+1,T.set cn (t++[(po,L,q2,true)]),by omega,by go_num,NS.o,RV.o,RX.o,CS.o,ke.o,NT.o⟩
     case measure=>first|exact dQ hlt|(have hm:=dQ hlt;rw[← Ql] at hm;exact hm)
theorem NU (l:List dx) (c:Int) (v1:Value) (w:World) (h1:eQ w v1 l) (l1:bM l):Calls prog 64 #[v1,.int .i64 c] w (dg w l c):=
 Ki l c v1 w h1 (fun d hd=>(l1 d hd).big) fun hm=>oP l1 (dr.1 hm).2.2
end Go.Proofs.YtbigkioechkngaaGreat
