/- The proof, part 10. -/
import Derived.Test.YtbigkioechkngaaGreatQ6
set_option maxRecDepth 100000
set_option maxHeartbeats 8000000
namespace Go.Proofs.YtbigkioechkngaaGreat
open Go.RowKit
def di (w:World) (l:List dy) (c:Int) (e:Ending) (w':World):Prop:=match cg l c with
 |none=>e=.returned (.tuple #[.slice none 0 0,.bool false])∧Bw w w'
 |some T=>∃v,e=.returned (.tuple #[v,.bool true])∧dI w' v T∧Bw w w'
theorem di.no {w w':World} {l:List dy} {c:Int} (h:cg l c=none) (hb:Bw w w'):di w l c (.returned (.tuple #[.slice none 0 0,.bool false])) w':=by unfold di;rw[h];exact ⟨rfl,hb⟩
theorem di.yes {w w':World} {l:List dy} {c:Int} {T:List (List aj)} {v:Value} (h:cg l c=some T) (ht:dI w' v T) (hb:Bw w w'):di w l c (.returned (.tuple #[v,.bool true])) w':=by unfold di;rw[h];exact ⟨v,rfl,ht,hb⟩
theorem yb {l:List dy} {c:Int} (h:c<1):cg l c=none:=by unfold cg;rw[if_neg (by omega)]
theorem uY {l:List dy} {c:Int} (h:1000<c):cg l c=none:=by unfold cg;rw[if_neg (by omega)]
theorem ye {l:List dy} {c:Int} (h:dR l=false):cg l c=none:=by unfold cg;rw[if_neg (by rw[h];simp)]
theorem AH {l:List dy} {n:Nat} (h1:1≤n) (h2:n≤1000) (h:dR l=true):cg l n=match gA n (List.replicate n []) (aY l) with
 |none=>none
 |some T=>if T.all dD=true then some T else none:=by unfold cg;rw[if_pos ⟨by omega,by omega,h⟩];rfl
def ad9 (w w4:World) (n g N:Nat) (C:List az) (i:Value) (wr:World):Prop:=
 ∃(k:Nat) (T:List (List aj)),k≤N∧i=.int .i64 k∧fM wr g w4.heap.size g n T∧(∀t∈T,t.length≤k)∧gA n (List.replicate n []) C=gA n T (C.drop k)∧UC g w4 wr∧Bw w wr∧w4.heap.size≤wr.heap.size
def Ym (w:World) (D n g:Nat) (T:List (List aj)) (i:Value) (wr:World):Prop:=
 ∃k:Nat,k≤n∧i=.int .i64 k∧fM wr g D g n T∧(∀(j:Nat) t,j<k→T[j]?=some t→dD t=true)∧Bw w wr
theorem Dj {T:List (List aj)} {c k:Nat} {t:List aj} {u:aj} (h:∀t∈T,t.length≤k) (ht:t∈T):∀x∈T.set c (t++[u]),x.length≤k+1:=fun x hx=>by
 rcases List.mem_or_eq_of_mem_set hx with hx|rfl
 ·have:=h x hx;omega
 ·have:=h t ht;simp;omega
theorem MQ {n:Int} (h:sD n=true) : -9223372036854775808≤n∧n≤9223372036854775807∧0≤(bM n).chunk∧(bM n).chunk≤999∧1≤(bM n).size∧(bM n).size≤256∧0≤(bM n).pos:=by have h1:=EH h;unfold sD at h;simp only[Bool.and_eq_true] at h;have h2:=(bz _).1 h.2;omega
def fZ (W:World) (B:Nat) (u0 u1 u2 u3:Value):Prop:=W.heap[B]?=some (.cells #[u0,u1,u2,u3] 52 (0,0))
theorem fZ.lt {W:World} {B:Nat} {u0 u1 u2 u3:Value} (h:fZ W B u0 u1 u2 u3):B<W.heap.size:=(Array.getElem?_eq_some_iff.1 h).1
theorem fZ.cells {W:World} {B:Nat} {u0 u1 u2 u3:Value} (h:fZ W B u0 u1 u2 u3):W.cell? ⟨B,0,none⟩=some u0∧W.cell? ⟨B,1,none⟩=some u1∧W.cell? ⟨B,2,none⟩=some u2∧W.cell? ⟨B,3,none⟩=some u3:=by simp[World.cell?,show W.heap[B]?=_ from h]
theorem fZ.frozen {W:World} {B:Nat} {u0 u1 u2 u3:Value} (h:fZ W B u0 u1 u2 u3) (j:Nat):W.frozen? ⟨B,j,none⟩=false:=by simp[World.frozen?,show W.heap[B]?=_ from h]
theorem fZ.new (W:World) (u0 u1 u2 u3:Value):fZ (W.alloc (.cells #[u0,u1,u2,u3] 52)) W.heap.size u0 u1 u2 u3:=World.alloc_heap_new _ _
theorem fZ.low {W W':World} {B D:Nat} {u0 u1 u2 u3:Value} (h:fZ W B u0 u1 u2 u3) (hb:Below D W W') (hD:B<D):fZ W' B u0 u1 u2 u3:=(hb.block B hD).trans h
theorem fZ.qI {W:World} {B:Nat} {u0 u1 u2 u3:Value} (v:Value) (h:fZ W B u0 u1 u2 u3):fZ (W.setCell ⟨B,0,none⟩ v) B v u1 u2 u3:=by obtain ⟨hlt,hk⟩:=Array.getElem?_eq_some_iff.1 h;show (W.heap.modify B _)[B]?=_;rw[Array.getElem?_eq_getElem (by rw[Array.size_modify];exact hlt),Array.getElem_modify_self,hk];rfl
theorem fZ.zO {W:World} {B:Nat} {u0 u1 u2 u3:Value} (v:Value) (h:fZ W B u0 u1 u2 u3):fZ (W.setCell ⟨B,1,none⟩ v) B u0 v u2 u3:=by obtain ⟨hlt,hk⟩:=Array.getElem?_eq_some_iff.1 h;show (W.heap.modify B _)[B]?=_;rw[Array.getElem?_eq_getElem (by rw[Array.size_modify];exact hlt),Array.getElem_modify_self,hk];rfl
theorem fZ.yQ {W:World} {B:Nat} {u0 u1 u2 u3:Value} (v:Value) (h:fZ W B u0 u1 u2 u3):fZ (W.setCell ⟨B,2,none⟩ v) B u0 u1 v u3:=by obtain ⟨hlt,hk⟩:=Array.getElem?_eq_some_iff.1 h;show (W.heap.modify B _)[B]?=_;rw[Array.getElem?_eq_getElem (by rw[Array.size_modify];exact hlt),Array.getElem_modify_self,hk];rfl
theorem fZ.akC {W:World} {B:Nat} {u0 u1 u2 u3:Value} (v:Value) (h:fZ W B u0 u1 u2 u3):fZ (W.setCell ⟨B,3,none⟩ v) B u0 u1 u2 v:=by obtain ⟨hlt,hk⟩:=Array.getElem?_eq_some_iff.1 h;show (W.heap.modify B _)[B]?=_;rw[Array.getElem?_eq_getElem (by rw[Array.size_modify];exact hlt),Array.getElem_modify_self,hk];rfl
theorem fZ.set {W:World} {B:Nat} {u0 u1 u2 u3:Value} (v0 v1 v2 v3:Value) (h:fZ W B u0 u1 u2 u3):fZ ((((W.setCell ⟨B,0,none⟩ v0).setCell ⟨B,1,none⟩ v1).setCell ⟨B,2,none⟩ v2).setCell ⟨B,3,none⟩ v3) B v0 v1 v2 v3:=
 (((h.qI v0).zO v1).yQ v2).akC v3
theorem Sq {W:World} {B:Nat} {u v0 v1 v2 v3:Value} {a:Addr} (h:W.cell? a=some u) (hne:a.block≠B):((((W.setCell ⟨B,0,none⟩ v0).setCell ⟨B,1,none⟩ v1).setCell ⟨B,2,none⟩ v2).setCell ⟨B,3,none⟩ v3).cell? a=some u:=
 lD (lD (lD (lD h hne) hne) hne) hne
theorem iC {W W':World} (hb:Bw W W') {a b c d e:Addr} {u v x y z:Value} (h:W.cell? a=some u∧W.cell? b=some v∧W.cell? c=some x∧W.cell? d=some y∧W.cell? e=some z):W'.cell? a=some u∧W'.cell? b=some v∧W'.cell? c=some x∧W'.cell? d=some y∧W'.cell? e=some z:=
 ⟨ae hb h.1,ae hb h.2.1,ae hb h.2.2.1,ae hb h.2.2.2.1,ae hb h.2.2.2.2⟩
theorem Ht {W:World} {B p q:Nat} {i j k l m:Nat} {u v x y z v0 v1 v2 v3:Value} (hp:p≠B) (hq:q≠B) (h:W.cell? ⟨p,i,none⟩=some u∧W.cell? ⟨p,j,none⟩=some v∧W.cell? ⟨p,k,none⟩=some x∧W.cell? ⟨p,l,none⟩=some y∧W.cell? ⟨q,m,none⟩=some z) :
 ((((W.setCell ⟨B,0,none⟩ v0).setCell ⟨B,1,none⟩ v1).setCell ⟨B,2,none⟩ v2).setCell ⟨B,3,none⟩ v3).cell? ⟨p,i,none⟩=some u∧((((W.setCell ⟨B,0,none⟩ v0).setCell ⟨B,1,none⟩ v1).setCell ⟨B,2,none⟩ v2).setCell ⟨B,3,none⟩ v3).cell? ⟨p,j,none⟩=some v∧((((W.setCell ⟨B,0,none⟩ v0).setCell ⟨B,1,none⟩ v1).setCell ⟨B,2,none⟩ v2).setCell ⟨B,3,none⟩ v3).cell? ⟨p,k,none⟩=some x∧((((W.setCell ⟨B,0,none⟩ v0).setCell ⟨B,1,none⟩ v1).setCell ⟨B,2,none⟩ v2).setCell ⟨B,3,none⟩ v3).cell? ⟨p,l,none⟩=some y∧((((W.setCell ⟨B,0,none⟩ v0).setCell ⟨B,1,none⟩ v1).setCell ⟨B,2,none⟩ v2).setCell ⟨B,3,none⟩ v3).cell? ⟨q,m,none⟩=some z:=
 ⟨Sq h.1 hp,Sq h.2.1 hp,Sq h.2.2.1 hp,Sq h.2.2.2.1 hp,Sq h.2.2.2.2 hq⟩
theorem wK {W:World} {B c p q:Nat} {i j k l m:Nat} {u v x y z r:Value} (hp:p≠B) (hq:q≠B) (h:W.cell? ⟨p,i,none⟩=some u∧W.cell? ⟨p,j,none⟩=some v∧W.cell? ⟨p,k,none⟩=some x∧W.cell? ⟨p,l,none⟩=some y∧W.cell? ⟨q,m,none⟩=some z) :
 (W.setCell ⟨B,c,none⟩ r).cell? ⟨p,i,none⟩=some u∧(W.setCell ⟨B,c,none⟩ r).cell? ⟨p,j,none⟩=some v∧(W.setCell ⟨B,c,none⟩ r).cell? ⟨p,k,none⟩=some x∧(W.setCell ⟨B,c,none⟩ r).cell? ⟨p,l,none⟩=some y∧(W.setCell ⟨B,c,none⟩ r).cell? ⟨q,m,none⟩=some z:=
 ⟨lD h.1 hp,lD h.2.1 hp,lD h.2.2.1 hp,lD h.2.2.2.1 hp,lD h.2.2.2.2 hq⟩
theorem mH {W:World} {a b c d e:Addr} {u v x y z:Value} (o:Obj) (h:W.cell? a=some u∧W.cell? b=some v∧W.cell? c=some x∧W.cell? d=some y∧W.cell? e=some z):(W.alloc o).cell? a=some u∧(W.alloc o).cell? b=some v∧(W.alloc o).cell? c=some x∧(W.alloc o).cell? d=some y∧(W.alloc o).cell? e=some z:=
 have hb:Bw W (W.alloc o):=aH.alloc aT o
 ⟨ae hb h.1,ae hb h.2.1,ae hb h.2.2.1,ae hb h.2.2.2.1,ae hb h.2.2.2.2⟩
theorem KQ (l:List dy) (c:Int) (v1:Value) (w:World) (h1:eU w v1 l) (l1:zV l) (l2:dR l=true→(df l).length≤600000):Calls Tryz.prog 64 #[v1,.int .i64 c] w (di w l c):=by
 have HV:=aa h1;have xJ:=aa l1;have nW:=aa l2;have uW:=aa (fun (W:World) (h:Bw w W)=>CV l v1 W (h1.keep (af h)) l1);obtain ⟨p,cp,rfl,a1,a2,ha⟩:=h1;obtain ⟨nl,rZ⟩:∃N,l.length=N:=⟨_,rfl⟩
 rw[rZ] at a1 HV uW;rw[rZ];clear ha a1 a2 l1 l2 rZ;by_cases h1:c<1
 ·have HF:=aa (yb (l:=l) h1)
  go_enter Tryz.func64,Tryz.ntmps64;go_wp2_with fail;refine au (di.no HF aH) ?_;simp[results,Tryz.results64,go_sem]
 by_cases h2:(1000:Int)<c
 ·have HF:=aa (uY (l:=l) h2)
  go_enter Tryz.func64,Tryz.ntmps64;go_wp2_with fail;refine au (di.no HF aH) ?_;simp[results,Tryz.results64,go_sem]
 cases hm:dR l with
 |false=>have HF:=aa (ye (c:=c) hm);have HM:=aa hm;clear hm;go_enter Tryz.func64,Tryz.ntmps64;go_wp2_with fail;refine (uW _ aH).mono ?_;rintro e w1 ⟨rfl,hb⟩;rw[HM.o];have HB:=aa hb;clear hb;go_wp2_with fail;refine au (di.no HF HB) ?_;simp[results,Tryz.results64,go_sem]
 |true=>
 obtain ⟨n,rfl⟩:∃n:Nat,c=n:=⟨c.toNat,by omega⟩
 have HN:=aa (show 1≤n∧n≤1000 by omega);have HF:=aa (AH HN.1 HN.2 hm);have HM:=aa hm;have Ca:=aa (wB hm);clear hm;go_enter Tryz.func64,Tryz.ntmps64;go_wp2_with fail;refine (uW _ aH).mono ?_;rintro e w2 ⟨rfl,hb⟩;rw[HM.o];have bU:=aa hb;clear hb;obtain ⟨w3,jP,mm,hb3⟩:=Al w2 n HN.2;obtain ⟨g,hg⟩:=aG w2.heap.size;rw[hg] at jP mm hb3;have qD:=aa mm;have dG:=aa (show Bw w w3 from bU.trans (hb3.mono (by rw[← hg];exact bU.size)));have HG:=aa (show g<w3.heap.size from ((mm 0).choose_spec.2.2.1.lt g rfl).2);have HWG:=aa (show w.heap.size≤g by rw[← hg];exact bU.size);clear mm hb3 hg h1 h2;obtain ⟨C,hC⟩:=aG (aY l);have tG:=aa (show C.length≤600000 by rw[← hC];exact tM nW);rw[hC] at HF Ca;have HC:=aa hC;clear hC;go_wp2_with (go_at_call 74;(with_reducible refine (uQ l _ _ (HV.o.keep (af dG.o)) xJ.o nW.o).mono ?_);rintro e w4 ⟨v4,rfl,Zx,ND,hb4⟩;rw[HC.o] at Zx;have HP:=aa Zx;obtain ⟨pq,cq,rfl,b1,b2,Rk⟩:=Zx;obtain ⟨N,hN⟩:=aG C.length;rw[hN] at b1 HP ND tG;rw[hN];have HNC:=aa hN;have HPA:=aa Rk;have RA:=aa ND;have gz:=aa hb4;have hlc:(N:Int)≤9223372036854775807:=(by unfold maxLen at b2;omega);clear hN Rk ND hb4 b1 b2);have pP:=aa (show fM w4 g w4.heap.size g n (List.replicate n []) from (qD _).below gz);have bA:=aa (ak dG gz);have QL:=aa (show g<w4.heap.size from Nat.lt_of_lt_of_le HG gz.size);clear jP HV uW;go_loopw [30] (fun i wr=>ad9 w w4 n g N C i wr) (fun i _=>N-(intOf i).toNat)
 case atStart=>exact ⟨0,_,dQ,rfl,pP,fun t ht=>by rw[List.mem_replicate] at ht;rw[ht.2];exact dQ,by rw[List.drop_zero],UC.refl _ _,bA,aT⟩
 case round=>
  obtain ⟨k,T,hk,rfl,MR,hlt,htg,Sr,hb,hsz⟩:=hrel;have JS:=aa MR;have VM:=aa hlt;have Zy:=aa htg;have Hu:=aa Sr;have zL:=aa hb;have mW:=aa hsz;clear MR hlt htg Sr hb hsz pP;by_cases hlt:k<N
  case neg=>
   obtain rfl:k=N:=by omega
   have Rv:decide ((k:Int)<(k:Int))=false:=(by simp);have FJ:=aa (show cg l n=if T.all dD=true then some T else none by
    rw[HF.o,Zy.o,List.drop_of_length_le (by rw[HNC.o];exact aT)];rfl)
   have UE:(n:Int)≤9223372036854775807:=by have:=HN.o;omega
   go_wp2_with fail;go_loopw [70] (fun i wr=>Ym w w4.heap.size n g T i wr) (fun i _=>n-(intOf i).toNat)
   case atStart=>exact ⟨0,dQ,rfl,JS,fun j t hj=>by omega,zL⟩
   case round=>
    obtain ⟨j,hj,rfl,MR,hall,hb⟩:=hrel;have NN:=aa MR;have pW:=aa hall;have UA:=aa hb;clear MR hall hb;by_cases jh:j<n
    case neg=>
     obtain rfl:j=n:=by omega
     have adD:decide ((j:Int)<(j:Int))=false:=(by simp);have HQ:=aa (show cg l j=some T by
      rw[FJ.o,if_pos];rw[List.all_eq_true];intro t ht;obtain ⟨i,hi⟩:=List.getElem?_of_mem ht;exact pW i t (by have:=(List.getElem?_eq_some_iff.1 hi).1;rw[NN.o.len] at this;exact this) hi)
     go_wp2_with fail;refine au (di.yes HQ (NN.at HN.2) UA) ?_;simp[results,Tryz.results64,go_sem]
    case pos=>
     have FI:(j:Int)<(n:Int):=(by omega);have ZA:=uM hj (show n≤1000000 by have:=HN.o;omega);obtain ⟨t,ht⟩:=fy (l:=T) (k:=j) (by rw[NN.o.len];exact jh);obtain ⟨r,hr,Vi⟩:=NN.one ht;have HU:=aa (fw Vi);have HT:=aa ht;clear Vi ht;cases wL:dD t with
     |false=>
      have yg:=aa wL;clear wL;have HQ:=aa (show cg l n=none by
       rw[FJ.o,if_neg];rw[List.all_eq_true];intro h;have:=h t (List.mem_of_getElem? HT);rw[yg.o] at this;exact absurd this (by simp))
      go_wp2_with (go_at_call 119;(with_reducible refine (oz t _ _ HU.o).mono ?_);rintro e w6 ⟨rfl,cW⟩;rw[yg.o];have cQ:=aa cW;clear cW);refine au (di.no HQ (ak UA cQ)) ?_;simp[results,Tryz.results64,go_sem]
     |true=>
      have yg:=aa wL;clear wL;go_wp2_with (go_at_call 119;(with_reducible refine (oz t _ _ HU.o).mono ?_);rintro e w6 ⟨rfl,cW⟩;rw[yg.o];have cQ:=aa cW;clear cW);go_roundw
      case rel=>exact ⟨j+1,by omega,by go_num,NN.o.below cQ.o,fun i x hi hx=>by
       by_cases e:i=j
       ·subst e;rw[HT.o] at hx;cases hx;exact yg.o
       ·exact pW.o i x (by omega) hx,ak UA.o cQ.o⟩
      case measure=>first|exact dU jh|(have hm:=dU jh;rw[← ZA] at hm;exact hm)
  case pos=>
   have fO:(k:Int)<(N:Int):=(by omega);have QN:=uM hk (show N≤1000000 by have:=tG.o;omega);obtain ⟨⟨q1,q2⟩,ht⟩:∃t,C[k]?=some t:=⟨_,List.getElem?_eq_getElem (by rw[HNC.o];exact hlt)⟩
   have o1:=(Ca.o _ (List.mem_of_getElem? ht)).1;simp only at o1;have FO:=aa (MQ o1);obtain ⟨gp,op,rfl,y0,y1⟩:=HPA.o k _ ht;simp only at y0 y1;have QI:g<gp:=by have:=RA.o gp rfl;have:=HG.o;omega
   replace y0:=Hu.cell y0 QI;replace y1:=Hu.cell y1 QI;obtain ⟨⟨ch,po,sz,pk⟩,hr⟩:∃r,bM q1=r:=⟨_,rfl⟩
   rw[hr] at FO;obtain ⟨cn,rfl⟩:∃cn:Nat,ch=cn:=⟨ch.toNat,by have:=FO.o;simp only at this;omega⟩
   have AJ:=aa (show Kb q1=⟨cn,po,sz,pk⟩ by unfold Kb;rw[if_pos o1];exact hr);have sJ:=aa ht;have JN:=aa o1;have Hv:=aa hr;clear ht o1 hr QI;obtain ⟨W1,hW1⟩:=aG (wr.alloc (.cells #[.int .i64 q1,.int .i64 q2] 82));have aZ:=aa (show Bw wr W1 by rw[← hW1];exact aq);have aU:=aa (show W1.cell? ⟨wr.heap.size,0,none⟩=some (.int .i64 q1)∧W1.cell? ⟨wr.heap.size,1,none⟩=some (.int .i64 q2) by rw[← hW1];exact ⟨by simp,by simp⟩);have ed:=aa hW1;clear hW1;go_upto_region 7 with fail;rw[ed.o];clear y0 y1 ed;obtain ⟨x0,x1⟩:=aU.o;go_upto_region 8 with (go_at_call 75;(with_reducible refine (vT q1 FO.o.1 FO.o.2.1 _).mono ?_);rintro e w5 ⟨rfl,aR⟩;rw[AJ.o,JN.o];simp only[aA.agg];have Ss:=aV aZ aR;have fQ:=aa (ae aR aU.o.2);clear aR);obtain ⟨W6,oQ⟩:=aG (w5.alloc (.cells #[.int .i64 cn,.int .i64 po,.int .i64 sz,.bool pk] 50));have cW:Bw w5 W6:=by rw[← oQ];exact aq
   have cQ:=aa (ak Ss cW);have rU:=aa (show kY w5.heap.size cn po sz pk W6 by rw[← oQ];exact ⟨by simp,by simp,by simp,by simp⟩);have kB:=aa (ae cW fQ);rw[oQ];clear oQ cW x0 x1;have r0:=rU.1;by_cases Rf:cn<n
   case neg=>
    have Su:(n:Int)≤(cn:Int):=(by omega);have HQ:=aa (show cg l n=none by
     rw[HF.o,Zy.o,o7 sJ.o,if_neg];unfold mE;rw[Hv.o];simp only[Bool.and_eq_true,decide_eq_true_eq];omega)
    go_wp2_with fail;refine au (di.no HQ (ak zL cQ)) ?_;simp[results,Tryz.results64,go_sem]
   case pos=>
   have Su:(cn:Int)<(n:Int):=(by omega);obtain ⟨L,hL⟩:=aG (bQ sz);have rP:=aa hL;have fL:=aa (show (-1000000:Int)≤sz∧sz≤1000000 by have:=FO.o;simp only at this;omega);clear hL;go_upto_region 10 with fail;clear r0;have hdr:Bw W6 W6.drew:=aH.drew;obtain ⟨r0,r1,r2,r3⟩:=rU.below hdr;have x1:=ae hdr kB.o;clear hdr;obtain ⟨WA,kS⟩:∃W,(W6.alloc (.cells #[.int .i64 0,.int .i64 0,.int .i64 0,.bool false] 52)).drew=W:=⟨_,rfl⟩
   have hbA:Bw W6 WA:=by rw[← kS];exact (aq).drew
   have gG:=aa (iC hbA ⟨rU.1,rU.2.1,rU.2.2.1,rU.2.2.2,kB⟩);have HUA:=aa (show fZ WA W6.heap.size (.int .i64 0) (.int .i64 0) (.int .i64 0) (.bool false) by rw[← kS];exact fZ.new W6 _ _ _ _);have yP:=aa hbA;have QZ:=aa (show w5.heap.size≠W6.heap.size∧wr.heap.size≠W6.heap.size from ⟨fun e=>by have:=World.block_lt_of_cell? _ _ rU.1;simp only at this;omega,fun e=>by have:=World.block_lt_of_cell? _ _ kB.o;simp only at this;omega⟩);rw[← kS] at gG HUA yP;clear hbA;clear kS;go_region_held3 (fun w'=>w'.cell? ⟨w5.heap.size,0,none⟩=some (.int .i64 cn)∧w'.cell? ⟨w5.heap.size,1,none⟩=some (.int .i64 po)∧w'.cell? ⟨w5.heap.size,2,none⟩=some (.int .i64 sz)∧w'.cell? ⟨w5.heap.size,3,none⟩=some (.bool pk)∧w'.cell? ⟨wr.heap.size,1,none⟩=some (.int .i64 q2))
    (first|with_reducible exact ⟨r0,r1,r2,r3,x1⟩|with_reducible exact gG.o|with_reducible exact qU.o|with_reducible exact mH _ qU.o|with_reducible exact Ht QZ.o.1 QZ.o.2 qU.o)
    (first|((with_reducible refine (xG cn po sz L pk fL.o.1 fL.o.2 rP.o W6.drew).mono ?_);rintro e w7 ⟨rfl,dO⟩;have qU:=aa (iC dO ⟨r0,r1,r2,r3,x1⟩);have fg:=aa (show Bw W6 w7 from ak aH.drew dO);clear dO)|((with_reducible refine (xG cn po sz L pk fL.o.1 fL.o.2 rP.o (W6.alloc (.cells #[.int .i64 0,.int .i64 0,.int .i64 0,.bool false] 52)).drew).mono ?_);rintro e w7 ⟨rfl,dO⟩;have qU:=aa (iC dO gG.o);have V9:=aa (HUA.o.low dO HUA.o.lt);have fg:=aa (show Bw W6 w7 from ak yP.o dO);obtain ⟨d0,d1,d2,d3⟩:=V9.o.cells;have f0:=V9.o.frozen 0;have f1:=V9.o.frozen 1;have f2:=V9.o.frozen 2;have f3:=V9.o.frozen 3;clear dO))
   all_goals
    first
    |(obtain ⟨bu,ZB⟩:∃b,W6.heap.size=b:=⟨_,rfl⟩
      have ZC:=V9.set (.int .i64 po) (.int .i64 L) (.int .i64 q2) (.bool true);have Q6:=Ht (v0:=.int .i64 po) (v1:=.int .i64 L) (v2:=.int .i64 q2) (v3:=.bool true) QZ.1 QZ.2 qU.o;have Cb:=eP (eP (eP (eP fg 0 (.int .i64 po)) 1 (.int .i64 L)) 2 (.int .i64 q2)) 3 (.bool true);obtain ⟨W8,lK⟩:∃W,(((w7.setCell ⟨W6.heap.size,0,none⟩ (.int .i64 po)).setCell ⟨W6.heap.size,1,none⟩ (.int .i64 L)).setCell ⟨W6.heap.size,2,none⟩ (.int .i64 q2)).setCell ⟨W6.heap.size,3,none⟩ (.bool true)=W:=⟨_,rfl⟩
      rw[lK] at ZC Q6 Cb ⊢;have HBU:=aa (show W6.heap.size≤bu from Nat.le_of_eq ZB);rw[ZB] at ZC ⊢;clear lK ZB d0 d1 d2 d3 f0 f1 f2 f3 V9)
    |(obtain ⟨bu,ZB⟩:∃b,w7.heap.size=b:=⟨_,rfl⟩
      have ZC:=fZ.new w7 (.int .i64 po) (.int .i64 L) (.int .i64 q2) (.bool true);have Q6:=mH (.cells #[.int .i64 po,.int .i64 L,.int .i64 q2,.bool true] 52) qU.o;have Cb:=fg.alloc fg.size (.cells #[.int .i64 po,.int .i64 L,.int .i64 q2,.bool true] 52);obtain ⟨W8,lK⟩:∃W,w7.alloc (.cells #[.int .i64 po,.int .i64 L,.int .i64 q2,.bool true] 52)=W:=⟨_,rfl⟩
      rw[lK] at ZC Q6 Cb ⊢;have HBU:=aa (show W6.heap.size≤bu by rw[← ZB];exact fg.size);rw[ZB] at ZC ⊢;clear lK ZB)
    have HU8:=aa ZC;have Di:=aa Q6;have gQ:=aV cQ Cb;clear ZC Q6 Cb r0 r1 r2 r3 x1 gG HUA yP qU fg;obtain ⟨t,ht⟩:=fy (l:=T) (k:=cn) (by rw[JS.o.len];exact Rf);obtain ⟨r,c1,g9,c9,w9,hrun,wM,Gx,AK,kp,gU⟩:=wA wr W8.drew g w4.heap.size g n cn T t (po,L,q2,true) (ak gQ aH.drew) JS ht (by have:=VM.o t (List.mem_of_getElem? ht);have:=tG.o;omega) mW.o;obtain ⟨tl,Wh⟩:∃n,t.length+1=n:=⟨_,rfl⟩
    rw[Wh] at hrun AK;have dM:=aa hrun;have Oo:=aa AK;have c2:(W8.alloc (.cells #[.int .i64 po,.int .i64 L,.int .i64 q2,.bool true] 52)).drew.cell? ⟨g,cn,none⟩=some r:=ae aH.drew (ae (aq) (show W8.cell? ⟨g,cn,none⟩=some r from c1));have Wi:=HU8.cells;have hs0:=iC (show Bw W8 W8.drew from aH.drew) ⟨Wi.1,Wi.2.1,Wi.2.2.1,Wi.2.2.2,Di.1⟩;have mA:=aa (iC (show Bw W8 (W8.alloc (.cells #[.int .i64 po,.int .i64 L,.int .i64 q2,.bool true] 52)).drew from (aq).drew) ⟨Wi.1,Wi.2.1,Wi.2.2.1,Wi.2.2.2,Di.1⟩);have zM:wr.heap.size≤bu:=Nat.le_trans cQ.size HBU.o;have aed:wr.heap.size≤w5.heap.size:=Ss.size;have Vv:g<wr.heap.size:=Nat.lt_of_lt_of_le QL mW.o;have zN:=aa (And.intro (gU _ _ zM hs0.1) (And.intro (gU _ _ zM hs0.2.1) (And.intro (gU _ _ zM hs0.2.2.1) (And.intro (gU _ _ zM hs0.2.2.2.1) (gU _ _ aed hs0.2.2.2.2)))));have QP:=aa (show bu≠g∧w5.heap.size≠g from ⟨by omega,by omega⟩);have Dk:=aa (show UC g w4 (w9.setCell ⟨g,cn,none⟩ (.slice (some ⟨g9,0,none⟩) tl c9)) from Hu.step mW (show Bw wr W8.drew from ak gQ aH.drew) aT kp);have km:=aa (show Bw w (w9.setCell ⟨g,cn,none⟩ (.slice (some ⟨g9,0,none⟩) tl c9)) from ((zL.trans ((ak gQ aH.drew).mono zL.size)).trans (kp.mono bA.size)).grown (aw w9 g cn _) (Nat.le_trans zL.size (Nat.le_trans gQ.size kp.size)) (fun k e=>by cases e;exact HWG));have Oq:=aa (show w4.heap.size≤(w9.setCell ⟨g,cn,none⟩ (.slice (some ⟨g9,0,none⟩) tl c9)).heap.size from Nat.le_trans mW (Nat.le_trans gQ.size (Nat.le_trans kp.size (aw w9 g cn _).size)));have Sv:=aa (Dj (c:=cn) (u:=(po,L,q2,true)) VM (List.mem_of_getElem? ht));have Sw:=aa (show gA n (List.replicate n []) C=gA n (T.set cn (t++[(po,L,q2,true)])) (C.drop (k+1)) by
     rw[Zy.o,o7 sJ.o,if_pos (by unfold mE;rw[Hv.o,JN.o];simp only[Bool.true_and,decide_eq_true_eq];exact Su)];unfold sR fX qQ;simp only[Hv.o,rP.o,Int.toNat_natCast,ht,Option.getD_some])
    clear hrun AK kp gU Wi zM aed Vv;go_wp2_with fail;obtain ⟨u0,u1,u2,u3,x0⟩:=hs0;obtain ⟨s0,s1,s2,s3,y0⟩:=mA.o;have z0:=zN.2.2.2.2;go_region_law (refine bE rfl _ _ _ rfl rfl rfl dM.o ?_)
    all_goals
     go_wp2_with fail;go_roundw
     case rel=>exact ⟨k+1,T.set cn (t++[(po,L,q2,true)]),by omega,by go_num,Oo.o,Sv.o,Sw.o,Dk.o,km.o,Oq.o⟩
     case measure=>first|exact dU hlt|(have hm:=dU hlt;rw[← QN] at hm;exact hm)
theorem Ot (l:List dy) (c:Int) (v1:Value) (w:World) (h1:eU w v1 l) (l1:bO l):Calls Tryz.prog 64 #[v1,.int .i64 c] w (di w l c):=
 KQ l c v1 w h1 (fun d hd=>(l1 d hd).big) fun hm=>oZ l1 (dw.1 hm).2.2
end Go.Proofs.YtbigkioechkngaaGreat
