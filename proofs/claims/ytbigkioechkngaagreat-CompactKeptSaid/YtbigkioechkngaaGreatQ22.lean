/- The proof, part 23. -/
import Derived.Test.YtbigkioechkngaaGreatQ15
import Derived.Test.YtbigkioechkngaaGreatQ19
set_option maxRecDepth 100000
set_option maxHeartbeats 8000000
namespace Go.Proofs.YtbigkioechkngaaGreat
open Go.RowKit
theorem vr {l:List aj} {j:Nat} {u:aj} (h:l[j]?=some u) (c:Int):(aI l).set (j*4+2) (.int .i64 c)=aI (l.set j (u.1,u.2.1,c,u.2.2.2)):=by
 have hall:nJ 4 (l.map cO):=fun q hq=>by obtain ⟨y,_,rfl⟩:=List.mem_map.1 hq;rfl
 have h1:(l.map cO)[j]?=some (cO u):=by rw[List.getElem?_map,h];rfl
 have e1:=qw (r:=2) (.int .i64 c) hall h1 (by decide);unfold aI;rw[e1,List.map_set];rfl
theorem Po {α:Type} {l:List α} {j:Nat} {u:α} (h:l[j]?=some u) (x:α):l.set j x=l.take j++[x]++l.drop (j+1):=by have hlt:=(List.getElem?_eq_some_iff.1 h).1;rw[List.set_eq_take_append_cons_drop,if_pos hlt,List.append_assoc];rfl
theorem LG (l:List aj) (a:Int) (v1:Value) (w:World) (h1:dB w v1 l):Calls Tryz.prog 139 #[v1,.int .i64 a] w fun e w'=>∃v,e=.returned (.tuple #[v,.bool (jI l a (-1)).2])∧w'.ownsRow w.heap.size 52 4 v (jI l a (-1)).1.length (aI (jI l a (-1)).1)∧Bw w w':=by
 have dS:=aa (oz l v1 w h1);have Ld:=aa (fun (W:World) (hb:Bw w W)=>I2 l a v1 W (h1.keep (af hb)));have H1:=aa (fun (W:World) (hb:Bw w W)=>h1.keep (af hb));obtain ⟨p,cp,rfl,a1,a2,ha⟩:=h1;have HA:=aa ha;obtain ⟨N,hN⟩:=aG l.length;rw[hN] at a1 dS Ld H1;rw[hN];have hlc:=fK (n:=N) a2;have HN:=aa hN;clear ha hN a1 a2;obtain ⟨m,hm⟩:=aG (dD l);have HM:=aa hm;rw[hm] at dS;clear hm;obtain ⟨r,hr⟩:=aG (jI l a (-1));have HR:=aa hr;rw[hr];unfold jI at HR;clear hr;go_enter Tryz.func139,Tryz.ntmps139;cases m with
 |false=>have HE:=aa (show r=([],false) by rw[← HR.o,if_neg (fun h=>by rw[HM.o] at h;exact absurd h.1 (by simp))]);go_wp2_with (go_at_call 119;(with_reducible refine dS.o.mono ?_);rintro e w5 ⟨rfl,aR⟩;have bA:=aa aR;clear aR);refine au (v:=.tuple #[.slice none 0 0,.bool false]) ⟨.slice none 0 0,by rw[HE.o],by rw[HE.o];exact ⟨rfl,.inl ⟨rfl,rfl⟩⟩,bA⟩ ?_;simp[results,Tryz.results139,go_sem]
 |true=>
  rcases tW (a:=a) l 0 with ⟨hi,hc,_⟩|⟨j,⟨ua,ub,uc,ud⟩,hi,hs,hua,hc,af3⟩
  ·have HE:=aa (show r=([],false) by rw[← HR.o,if_neg (fun h=>h.2.1 hc)])
   rw[hi] at Ld;clear hi hc;go_wp2_with (first|(go_at_call 119;(with_reducible refine dS.o.mono ?_);rintro e w5 ⟨rfl,aR⟩;have bA:=aa aR;clear aR)|(go_at_call 171;(with_reducible refine (Ld.o _ bA.o).mono ?_);rintro e w6 ⟨rfl,cW⟩;have cQ:=aV bA cW;clear cW));refine au (v:=.tuple #[.slice none 0 0,.bool false]) ⟨.slice none 0 0,by rw[HE.o],by rw[HE.o];exact ⟨rfl,.inl ⟨rfl,rfl⟩⟩,cQ⟩ ?_;simp[results,Tryz.results139,go_sem]
  ·rw[Nat.zero_add] at hi
   rw[hi] at Ld;simp only at hua hc;subst hua;have hjN:j<N:=by rw[← HN.o];exact (List.getElem?_eq_some_iff.1 hs).1
   have FI:(j:Int)<(N:Int):=(by omega);have R7:¬(j:Int)<0:=by omega
   have hj1:decide ((j:Int)<0)=false:=decide_eq_false R7;obtain ⟨g,o,rfl,x1⟩:=HA.o j _ hs;simp only at x1;have aU:=aa x1;have Ca:=aa (bW.1 (gV HM (List.mem_of_getElem? hs)));by_cases hz:uc<1
   case pos=>
    have HE:=aa (show r=([],false) by
     rw[← HR.o,if_neg (fun h=>h.2.1 (by obtain ⟨_,_,_,_,h5,h6,_⟩:=Ca.o;(try simp only at h5 h6);rw[hc];omega))])
    have hd:decide (uc<1)=true:=decide_eq_true hz;clear hi hc hs x1;go_wp2_with (first|(go_at_call 119;(with_reducible refine dS.o.mono ?_);rintro e w5 ⟨rfl,aR⟩;have bA:=aa aR;clear aR)|(go_at_call 171;(with_reducible refine (Ld.o _ bA.o).mono ?_);rintro e w6 ⟨rfl,cW⟩;have cQ:=aV bA cW;clear cW;obtain ⟨r0,r1,r2,r3⟩:=aU.o.keep (af cQ.o)));refine au (v:=.tuple #[.slice none 0 0,.bool false]) ⟨.slice none 0 0,by rw[HE.o],by rw[HE.o];exact ⟨rfl,.inl ⟨rfl,rfl⟩⟩,cQ⟩ ?_;simp[results,Tryz.results139,go_sem]
   case neg=>
    have hd:decide (uc<1)=false:=decide_eq_false hz;have HUC:=aa (show 1≤uc∧uc≤1000000 by obtain ⟨_,_,_,_,h5,h6,_⟩:=Ca.o;(try simp only at h5 h6);omega);have HE:=aa (show r=(pN ua (-1) l,true) by
     rw[← HR.o,if_pos ⟨HM,by rw[hc];omega,by rw[hc];have:=HUC.o;omega⟩])
    have HT:=aa (Tn (b := -1) HM hs rfl af3);have HS:=aa hs;have yZ:=aa (show N≤16 by rw[← HN.o];exact fY HM);have tG:=aa (fun (W:World) (hb:Bw w W)=>kM (some ⟨g,o,none⟩) N cp (aI l) W (vq (H1 W hb)).2 (by have:=yZ.o;omega));have oD:=aa (vr hs (uc-1));clear hi hc hs x1 af3;simp only at oD;go_upto_region 7 with (first|(go_at_call 119;(with_reducible refine dS.o.mono ?_);rintro e w5 ⟨rfl,aR⟩;have bA:=aa aR;clear aR)|(go_at_call 171;(with_reducible refine (Ld.o _ bA.o).mono ?_);rintro e w6 ⟨rfl,cW⟩;have cQ:=aV bA cW;clear cW;obtain ⟨r0,r1,r2,r3⟩:=aU.o.keep (af cQ.o))|(go_at_call 78;(with_reducible refine (tG.o _ cQ.o).mono ?_);(rintro e w8 ⟨v8,rfl,ho,hb⟩);(obtain ⟨p8,c8,rfl⟩:=eF ho);(have Ct:=aa ho);(have gQ:=aV cQ hb);(clear hb ho)));rcases aK Ct.o with ⟨_,e0,_⟩|⟨g8,aaO,hv8⟩
    ·omega
    injection hv8 with e1 _ e3;subst e1;subst e3;have hlen:=nA l;have hc2:=iB l j (ua,ub,uc,ud) 2 (.int .i64 uc) HS rfl;have hc3:=iB l j (ua,ub,uc,ud) 3 (.bool ud) HS rfl;have k2:w8.cell? ⟨g8,j*4+2,none⟩=some (.int .i64 uc):=by obtain ⟨h6,h7⟩:=List.getElem?_eq_some_iff.1 hc2;have:=bJ Ct _ h6;rw[h7] at this;exact this
    have k3:w8.cell? ⟨g8,j*4+3,none⟩=some (.bool ud):=by obtain ⟨h6,h7⟩:=List.getElem?_eq_some_iff.1 hc3;have:=bJ Ct _ h6;rw[h7] at this;exact this
    have kf:=gC Ct (j*4+2);have HK3:=aa k3;have VO:=aa (l9 Ct (j*4+2) (.int .i64 (uc-1)) (by rw[hlen,HN.o];omega));have hw1:(1:Int)≤uc:=HUC.1;have hw2:uc≤1000000:=HUC.2;clear r0 r1 r2 r3 hlen hc2 hc3 k3 hd;go_upto_region 8 with fail;obtain ⟨W9,AZ⟩:=aG (w8.setCell ⟨g8,j*4+2,none⟩ (.int .i64 (uc-1)));have HK9:=aa (show W9.cell? ⟨g8,j*4+2,none⟩=some (.int .i64 (uc-1))∧W9.cell? ⟨g8,j*4+3,none⟩=some (.bool ud) by
     rw[← AZ];exact ⟨World.cell?_setCell_same _ _ _ k2,(World.cell?_setCell_other _ _ _ _ (fun e=>by injection e with e1 e2;omega)).trans HK3⟩)
    rw[oD.o,AZ] at VO;have km:=aa (show Bw w W9 by rw[← AZ];exact gQ.setCell (p:=⟨g8,j*4+2,none⟩) (Nat.le_trans cQ.size (Ct.lt g8 rfl).1) _)
    try rw[AZ]
    clear AZ k2 kf;obtain ⟨q2,q3⟩:=HK9.o;have vI:=aa (show l.set j (ua,ub,uc-1,ud)=l.take j++[(ua,ub,uc-1,ud)]++l.drop (j+1) from Po HS _);have af5:=(bp VO).choose_spec;by_cases hdel:uc-1=0∧ud=false
    case pos=>
     obtain ⟨Rl,rfl⟩:=hdel;have kQ:=aa (show pN ua (-1) l=l.take j++l.drop (j+1) by
      rw[HT.o,if_neg (by unfold sS uS;rw[if_pos rfl];simp only;rw[decide_eq_false (by omega)];simp),List.append_nil])
     have Q2:(uc-1==0)=true:=(by simpa using Rl);have HDL:=aa (Bi w6.heap.size N j g8 c8 _ W9 VO (jo _) (by have:=yZ.o;omega) hjN);have hjw:wrap64 ((j:Int)+1)=(j:Int)+1:=by have:=yZ.o;unfold wrap64;omega
     have hjb:(j:Int)+1≤9223372036854775807:=(by omega);clear Rl af5 hjw;go_wp2_with (go_at_call 172;(with_reducible refine HDL.o.mono ?_);(rintro e G7 ⟨v10,rfl,ho,hg⟩);(obtain ⟨YJ,c10,rfl⟩:=eF ho);(have Ih:=aa ho);(have tN:=aa (show Bw w G7 from km.o.grown hg km.o.size (fun b hb=>Nat.le_trans cQ.o.size (by have:=(Ct.o.lt b hb).1;exact this))));(clear ho hg));refine au (v:=.tuple #[.slice YJ (N-1) c10,.bool true]) ⟨.slice YJ (N-1) c10,by rw[HE.o],?_,tN⟩ ?_
     ·rw[HE.o]
      simp only;have h:=Ih.o;rw[lO,lR,kX] at h;have e1:(l.set j (ua,ub,uc-1,false)).take j=l.take j:=by rw[List.take_set_of_le (Nat.le_refl j)]
      have e2:(l.set j (ua,ub,uc-1,false)).drop (j+1)=l.drop (j+1):=(by rw[List.drop_set_of_lt (Nat.lt_succ_self j)]);rw[e1,e2] at h;rw[kQ.o];have hl:(l.take j++l.drop (j+1)).length=N-1:=by have:=HN.o;simp only[List.length_append,List.length_take,List.length_drop];omega
      rw[hl];exact bC cQ.size h
     simp[results,Tryz.results139,go_sem]
    case neg=>
     have kQ:=aa (show pN ua (-1) l=l.set j (ua,ub,uc-1,ud) by
      rw[vI.o,HT.o,if_pos (by
       unfold sS uS;rw[if_pos rfl];simp only;by_cases h9:0<uc + -1
       ·rw[decide_eq_true h9];rfl
       ·cases ud with
        |true=>simp
        |false=>exact absurd ⟨by omega,rfl⟩ hdel)]
      unfold uS;rw[if_pos rfl];rfl)
     have hl:(l.set j (ua,ub,uc-1,ud)).length=N:=by rw[List.length_set];exact HN.o
     have HL:=aa hl;clear hl af5;by_cases hz0:uc-1=0
     ·have Q2:(uc-1==0)=true:=by simpa using hz0
      obtain rfl:ud=true:=by
       cases ud with
       |true=>rfl
       |false=>exact absurd ⟨hz0,rfl⟩ hdel
      clear hdel hz0;go_wp2_with fail;refine au (v:=.tuple #[.slice (some ⟨g8,0,none⟩) N c8,.bool true]) ⟨.slice (some ⟨g8,0,none⟩) N c8,by rw[HE.o],by rw[HE.o];simp only;rw[kQ.o,HL.o];exact bC cQ.size VO,km⟩ ?_;simp[results,Tryz.results139,go_sem]
     ·have Q2:(uc-1==0)=false:=by simpa using hz0
      clear hdel hz0;go_wp2_with fail;refine au (v:=.tuple #[.slice (some ⟨g8,0,none⟩) N c8,.bool true]) ⟨.slice (some ⟨g8,0,none⟩) N c8,by rw[HE.o],by rw[HE.o];simp only;rw[kQ.o,HL.o];exact bC cQ.size VO,km⟩ ?_;simp[results,Tryz.results139,go_sem]
def cL (a n:Int) (u:aj):aj:=if u.1=a then (u.1,u.2.1,n,u.2.2.2) else u
def qh (a n:Int) (l:List aj) (k:Nat):List aj:=(l.take k).map (cL a n)++l.drop k
theorem Bj (a n:Int) (l:List aj) (k:Nat):(qh a n l k).length=l.length:=by unfold qh;rw[List.length_append,List.length_map,List.length_take,List.length_drop];omega
theorem Bl (a n:Int) (l:List aj) (k i:Nat):(qh a n l k)[i]?=if i<k then (l[i]?).map (cL a n) else l[i]?:=by
 unfold qh;by_cases h:i<k
 ·rw[if_pos h]
  by_cases h2:i<l.length
  ·rw[List.getElem?_append_left (by rw[List.length_map,List.length_take];omega),List.getElem?_map,List.getElem?_take,if_pos h]
  ·rw[List.getElem?_eq_none (by rw[List.length_append,List.length_map,List.length_take,List.length_drop];omega),List.getElem?_eq_none (by omega)];rfl
 ·rw[if_neg h]
  by_cases h2:k≤l.length
  ·have e:((l.take k).map (cL a n)).length=k:=by rw[List.length_map,List.length_take];omega
   rw[List.getElem?_append_right (by rw[e];omega),e,List.getElem?_drop,show k+(i-k)=i by omega]
  ·rw[List.getElem?_eq_none (by rw[List.length_append,List.length_map,List.length_take,List.length_drop];omega),List.getElem?_eq_none (by omega)]
theorem zu {a n:Int} {l:List aj} {k:Nat} {u:aj} (h:l[k]?=some u):(qh a n l k)[k]?=some u:=by rw[Bl,if_neg (by omega)];exact h
theorem DK {a n:Int} {l:List aj} {k:Nat} {u:aj} (h:l[k]?=some u):qh a n l (k+1)=(qh a n l k).set k (cL a n u):=by
 have hk:=(List.getElem?_eq_some_iff.1 h).1;apply List.ext_getElem?;intro i;rw[Bl];by_cases hi:k=i
 ·subst hi
  rw[if_pos (by omega),List.getElem?_set_self (by rw[Bj];exact hk),h];rfl
 ·rw[List.getElem?_set_ne hi,Bl]
  by_cases h2:i<k
  ·rw[if_pos (by omega),if_pos h2]
  ·rw[if_neg (by omega),if_neg h2]
theorem Pp {a n:Int} {l:List aj} {k:Nat} {u:aj} (h:l[k]?=some u) (hu:¬u.1=a):qh a n l (k+1)=qh a n l k:=by
 rw[DK h];have e:cL a n u=u:=by unfold cL;rw[if_neg hu]
 rw[e];apply List.ext_getElem?;intro i;by_cases hi:k=i
 ·subst hi
  rw[List.getElem?_set_self (by rw[Bj];exact (List.getElem?_eq_some_iff.1 h).1),zu h]
 ·rw[List.getElem?_set_ne hi]
theorem E9 (l:List aj) (a n:Int) (B g c:Nat) (w:World) (h:w.ownsRow B 52 4 (.slice (some ⟨g,0,none⟩) l.length c) l.length (aI l)) (hl:l.length≤1000):Calls Tryz.prog 84 #[.slice (some ⟨g,0,none⟩) l.length c,.int .i64 a,.int .i64 n] w fun e w'=>e=.returned (.tuple #[])∧w'.ownsRow B 52 4 (.slice (some ⟨g,0,none⟩) l.length c) l.length (aI (l.map (cL a n)))∧w.grownBy w' (some g):=by
 have HO:=aa h;obtain ⟨N,hN⟩:=aG l.length;have HN:=aa hN;rw[hN] at hl HO;rw[hN];clear h hN;have hlc:(N:Int)≤9223372036854775807:=by omega
 go_enter Tryz.func84,Tryz.ntmps84;go_wp2_with fail;go_loopw [9] (fun i wr=>∃k:Nat,k≤N∧i=.int .i64 k∧wr.ownsRow B 52 4 (.slice (some ⟨g,0,none⟩) N c) N (aI (qh a n l k))∧w.grownBy wr (some g)) (fun i _=>N-(intOf i).toNat)
 case atStart=>exact ⟨0,dQ,rfl,HO,World.grownBy.refl _ _⟩
 case round=>
  obtain ⟨k,hk,rfl,hrow,hg⟩:=hrel;have bY:=aa hrow;have HG:=aa hg;clear hrow hg;by_cases hlt:k<N
  case neg=>
   obtain rfl:k=N:=by omega
   have HF:=aa (show qh a n l k=l.map (cL a n) by
    unfold qh;rw[List.take_of_length_le (by rw[HN.o];exact aT),List.drop_of_length_le (by rw[HN.o];exact aT),List.append_nil])
   go_wp2_with fail;go_end0;exact ⟨rfl,by rw[← HF.o];exact bY,HG⟩
  case pos=>
   have fO:(k:Int)<(N:Int):=(by omega);have Np:(0:Int)≤(k:Int):=by omega
   obtain ⟨⟨x,y,z,d⟩,hs⟩:∃s,l[k]?=some s:=⟨_,List.getElem?_eq_getElem (by rw[HN.o];exact hlt)⟩
   have hlen:=nA (qh a n l k);rw[Bj,HN.o] at hlen;have hc0:=iB _ k (x,y,z,d) 0 (.int .i64 x) (zu (a:=a) (n:=n) hs) rfl;have hc2:=iB _ k (x,y,z,d) 2 (.int .i64 z) (zu (a:=a) (n:=n) hs) rfl;have k0:wr.cell? ⟨g,k*4,none⟩=some (.int .i64 x):=by obtain ⟨h6,h7⟩:=List.getElem?_eq_some_iff.1 hc0;have:=bJ bY _ h6;rw[h7] at this;exact this
   have k2:wr.cell? ⟨g,k*4+2,none⟩=some (.int .i64 z):=by obtain ⟨h6,h7⟩:=List.getElem?_eq_some_iff.1 hc2;have:=bJ bY _ h6;rw[h7] at this;exact this
   have kf:=gC bY (k*4+2);have Fa:=aa (l9 bY (k*4+2) (.int .i64 n) (by rw[hlen];omega));have oD:=aa (vr (zu (a:=a) (n:=n) hs) n);have HS:=aa hs;clear hs hc0 hc2 hlen;by_cases BZ:x=a
   ·subst BZ
    have fS:=aa (show qh x n l (k+1)=(qh x n l k).set k (x,y,n,d) by
     rw[DK HS.o];unfold cL;rw[if_pos rfl])
    have tU:=aa (show (wr.setCell ⟨g,k*4+2,none⟩ (.int .i64 n)).ownsRow B 52 4 (.slice (some ⟨g,0,none⟩) N c) N (aI (qh x n l (k+1))) by
     rw[fS.o];have h:=Fa.o;rw[oD.o] at h;exact h)
    have Zh:=aa (show w.grownBy (wr.setCell ⟨g,k*4+2,none⟩ (.int .i64 n)) (some g) from aX HG (Cg _ _ _ _));obtain ⟨W9,AZ⟩:=aG (wr.setCell ⟨g,k*4+2,none⟩ (.int .i64 n));rw[AZ] at tU Zh;have HW9:=aa AZ;clear AZ;go_upto_region 5 with fail;rw[HW9.o];clear k0 k2 kf HW9;go_wp2_with fail;go_roundw
    case rel=>exact ⟨k+1,by omega,by go_num,tU.o,Zh.o⟩
    case measure=>simp[intOf];omega
   ·have hd:(x==a)=false:=by simpa using BZ
    have fS:=aa (show qh a n l (k+1)=qh a n l k from Pp HS BZ);clear BZ;go_wp2_with fail;go_roundw
    case rel=>exact ⟨k+1,by omega,by go_num,by rw[fS.o];exact bY.o,HG.o⟩
    case measure=>simp[intOf];omega
def jL (w:World) (B:Nat) (v:Value) (n:Nat) (rs:List wJ) (x:List (List aj)):Prop:=rs.length=n∧w.ownsRow B 45 1 v n (bn Ho rs)∧(∀(i:Nat) s t,rs[i]?=some s→x[i]?=some t→w.ownsRow B 52 4 (ik s) t.length (aI t))∧∀(i j:Nat) s s',i≠j→rs[i]?=some s→rs[j]?=some s'→eD (ik s) (ik s')
theorem YK (W:World) (n:Nat) (hn:n≤1000):∃w1,(Instr.makeSlice 28 (.int .i64 0) (.int .i64 n)).run Tryz.prog W=.ok (.slice (some ⟨W.heap.size,0,none⟩) 0 n) w1∧w1.ownsRow W.heap.size 45 1 (.slice (some ⟨W.heap.size,0,none⟩) 0 n) 0 (bn Ho [])∧Bw W w1:=by obtain ⟨i0,hi,hz0,hz1,hz2⟩:=info_parts zl;obtain ⟨w1,jP,hown,hg⟩:=run_make_own (P:=Tryz.prog) W W.heap.size 28 45 i0 (.slice none 0 0) 1 Tryz.underlying28 hi hz0 hz1 .i64 .i64 n (by rw[hz2];omega) (by unfold maxLen;omega) aT;exact ⟨w1,jP,hown,aH.grown hg aT (fun k e=>by cases e)⟩
theorem Bp (W:World) (B n:Nat) (v:Value) (rs:List wJ) (s:wJ) (hown:W.ownsRow B 45 1 v n (bn Ho rs)) (hn:n≤100000000) (hB:B≤W.heap.size) :
 ∃g cap w2,(Builtin.append_ #[28,28] 28 #[v,.slice (some ⟨W.heap.size,0,none⟩) 1 1]).run Tryz.prog (W.alloc (.cells #[.slice s.1 s.2.1 s.2.2] 45))=.ok (.slice (some ⟨g,0,none⟩) (n+1) cap) w2∧ky W w2 B n 45 1 v (bn Ho rs) (Ho s) g cap:=by
 obtain ⟨i0,iP,hz0,hz1,hz2⟩:=info_parts zl;exact eY 28 45 i0 _ 1 24 Tryz.underlying28 iP hz0 hz1 hz2 rfl (by decide) (by decide) W B n v (bn Ho rs) (Ho s) hown rfl (MN s) hn hB
theorem sq {w w2:World} {B k k' n n':Nat} {e e':TypeId} {v v':Value} {xs ys:List Value} (h:w.ownsRow B e k v n xs) (h':w2.ownsRow w.heap.size e' k' v' n' ys):eD v v'∧eD v' v:=by
 cases hv:v.ownBlock with
 |none=>exact ⟨.inl hv,by
  cases hv':v'.ownBlock with
  |none=>exact .inl hv'
  |some g=>exact .inr (by rw[hv,hv'];simp)⟩
 |some g=>
  have h1:=(h.lt g hv).2;have hne:v.ownBlock≠v'.ownBlock:=fun e=>by have:=(h'.lt g (by rw[← e];exact hv)).1;omega
  exact ⟨.inr hne,.inr (fun e=>hne e.symm)⟩
theorem Bq {rs:List wJ} {k:Nat} {s0:wJ} (hl:rs.length=k) (h:∀(i j:Nat) s s',i≠j→rs[i]?=some s→rs[j]?=some s'→eD (ik s) (ik s')) (hn:∀(i:Nat) s,rs[i]?=some s→eD (ik s) (ik s0)∧eD (ik s0) (ik s)):∀(i j:Nat) s s',i≠j→(rs++[s0])[i]?=some s→(rs++[s0])[j]?=some s'→eD (ik s) (ik s'):=by
 intro i j s s' xS hi hj;have pX:=(List.getElem?_eq_some_iff.1 hi).1;have Ez:=(List.getElem?_eq_some_iff.1 hj).1;rw[List.length_append,hl] at pX Ez;simp only[List.length_cons,List.length_nil] at pX Ez;by_cases e:i<k
 ·rw[List.getElem?_append_left (by omega)] at hi
  by_cases e':j<k
  ·rw[List.getElem?_append_left (by omega)] at hj
   exact h i j s s' xS hi hj
  ·rw[List.getElem?_append_right (by omega),show j-rs.length=0 by omega] at hj
   simp only[List.getElem?_cons_zero,Option.some.injEq] at hj;subst hj;exact (hn i s hi).1
 ·rw[List.getElem?_append_right (by omega),show i-rs.length=0 by omega] at hi
  simp only[List.getElem?_cons_zero,Option.some.injEq] at hi;subst hi;rw[List.getElem?_append_left (by omega)] at hj;exact (hn j s' hj).2
theorem DL (x:List (List aj)) (v1:Value) (w:World) (h1:dI w v1 x) (hl:x.length≤1000) (TC:∀t∈x,t.length≤1000):Calls Tryz.prog 77 #[v1,.func (.func 78) #[] #[]] w fun e w'=>∃g cap rs,e=.returned (.slice (some ⟨g,0,none⟩) x.length cap)∧jL w' w.heap.size (.slice (some ⟨g,0,none⟩) x.length cap) x.length rs x∧Bw w w':=by
 obtain ⟨p,cp,rfl,a1,a2,ha⟩:=h1;have HA:=aa ha;have aaQ:=aa TC;obtain ⟨N,hN⟩:=aG x.length;rw[hN] at a1 hl;rw[hN];have hlc:(N:Int)≤9223372036854775807:=by omega
 have HN:=aa hN;have rP:=aa hl;obtain ⟨w6,jP,hrow,cW⟩:=YK w N hl;have Ba:=aa hrow;have cQ:=aa cW;clear ha hN a1 a2 hrow cW hl TC;go_enter Tryz.func77,Tryz.ntmps77;go_wp2_with fail;clear jP;go_loopw [13,5,7] (fun i o _ wr=>∃(k:Nat) (g:Nat) (co:Nat) (rs:List wJ),k≤N∧i=.int .i64 k∧o=.slice (some ⟨g,0,none⟩) k co∧jL wr w.heap.size o k rs x∧Bw w wr) (fun i _ _ _=>N-(intOf i).toNat)
 case atStart=>exact ⟨0,_,_,[],dQ,rfl,rfl,⟨rfl,Ba,fun i s t hs=>by simp at hs,fun i j s s' _ hs=>by simp at hs⟩,cQ⟩
 case round=>
  obtain ⟨k,gr,co,rs,hk,rfl,rfl,hrow,hb⟩:=hrel;have bY:=aa hrow;have HB:=aa hb;clear hrow hb;by_cases hlt:k<N
  case neg=>
   obtain rfl:k=N:=by omega
   go_wp2_with fail;go_ret;exact ⟨gr,co,rs,rfl,bY,HB⟩
  case pos=>
   have fO:(k:Int)<(N:Int):=(by omega);obtain ⟨s,hs⟩:=fy (l:=x) (k:=k) (by rw[HN.o];omega);obtain ⟨g,o,u1,rfl,x1,x2⟩:=HA.o k _ hs;obtain ⟨su,rfl⟩:=x2.sl;have xD:=vq (x2.keep (af HB));unfold ik at *;have r0:=ae HB x1;have dS:=aa (kM su.1 su.2.1 su.2.2 (aI s) wr xD.2 (by have:=aaQ.o s (List.mem_of_getElem? hs);omega));have yN:=aa xD.1;have HS:=aa hs;clear hs x1 x2 xD;go_wp2_with (first|(go_at_call 78;(with_reducible refine dS.o.mono ?_);(rintro e w2 ⟨v2,rfl,ho,hb⟩);(obtain ⟨p2,c2,rfl⟩:=eF ho);(obtain ⟨g2,Tk,w3,hrun,cj⟩:=Bp w2 w.heap.size k _ rs (p2,su.2.1,c2) (aM bY.o.2.1 hb) (by have:=rP.o;omega) (Nat.le_trans HB.o.size hb.size));(have dM:=aa hrun);(have yY:=aa cj);(have nM:=aa ho);(have aaR:=aa (fun (v:Value) (n:Nat) (xs:List Value) (B:Nat) (h:wr.ownsRow B 52 4 v n xs)=>show eD v (ik (p2,su.2.1,c2))∧eD (ik (p2,su.2.1,c2)) v from sq h ho));(have JS:=aa (fun (i:Nat) (s:wJ) (t:List aj) (h1:rs[i]?=some s) (h2:x[i]?=some t)=>aM (bY.o.2.2.1 i s t h1 h2) hb));(have TD:=aa hb);(have dG:=aa (show Bw w w3 from (ak HB.o hb).trans cj.below));(clear hb hrun cj ho))|(at_builtin;refine Lib.wpList_append_run _ rfl _ _ _ _ rfl _ _ rfl rfl _ _ dM.o ?_));go_roundw
   case rel=>
    refine ⟨k+1,_,_,rs++[(p2,su.2.1,c2)],by omega,by go_num,rfl,⟨by rw[List.length_append,bY.o.1];rfl,by rw[← fF];exact yY.o.row,fun i s' t nU ht=>?_,fun i j s1 s2 xS h1 h2=>?_⟩,dG.o⟩
    rotate_left
    ·exact Bq bY.1 bY.2.2.2 (fun i s' nU=>by
      have hi:=(List.getElem?_eq_some_iff.1 nU).1;rw[bY.o.1] at hi;have h:=bY.2.2.1 i s' _ nU (List.getElem?_eq_getElem (by rw[HN.o];omega));exact aaR _ _ _ _ h) i j s1 s2 xS h1 h2
    by_cases e:i<k
    ·rw[List.getElem?_append_left (by rw[bY.o.1];exact e)] at nU
     have h:=JS.o i s' t nU ht;have hr2:=aM bY.2.1 (show Bw wr w2 from TD);exact (yY.others _ _ _ _ _ _ h (cR h hr2 (by decide))).1
    ·have hik:i=k:=by
      have:=(List.getElem?_eq_some_iff.1 nU).1;rw[List.length_append,bY.o.1] at this;simp at this;omega
     subst hik;rw[List.getElem?_append_right (by rw[bY.o.1];exact aT),bY.o.1,Nat.sub_self] at nU;simp only[List.getElem?_cons_zero,Option.some.injEq] at nU;subst nU;rw[HS.o] at ht;cases ht;have h:=bC HB.size nM.o;rw[yN.o] at h;have hr2:=aM bY.2.1 (show Bw wr w2 from TD);have h9:=(yY.others _ _ _ _ _ _ h (cR h hr2 (by decide))).1;unfold ik;simp only;rw[yN.o];exact h9
   case measure=>simp[intOf];omega
theorem jL.set {W:World} {B g cap n i:Nat} {rs:List wJ} {x:List (List aj)} {s2:wJ} {l:List aj} (h:jL W B (.slice (some ⟨g,0,none⟩) n cap) n rs x) (ho:W.ownsRow B 52 4 (ik s2) l.length (aI l)) (hap:∀(j:Nat) s,rs[j]?=some s→¬j=i→eD (ik s) (ik s2)∧eD (ik s2) (ik s)) (hi:i<n):jL (W.setCell ⟨g,i,none⟩ (ik s2)) B (.slice (some ⟨g,0,none⟩) n cap) n (rs.set i s2) (x.set i l):=by
 obtain ⟨h1,h2,h3,h4⟩:=h;have keep:∀(v:Value) (m:Nat) (xs:List Value),W.ownsRow B 52 4 v m xs→(W.setCell ⟨g,i,none⟩ (ik s2)).ownsRow B 52 4 v m xs:=fun v m xs hv=>
  hv.kept (aw W g i _) (by
   rcases cR hv h2 (by decide) with h5|h5
   ·exact .inl h5
   ·exact .inr h5)
 refine ⟨by rw[List.length_set];exact h1,zm lJ h2 (by omega) rfl,fun j s t hs ht=>?_,fun j k s s' hjk hs nU=>?_⟩
 ·by_cases e:i=j
  ·subst e
   have hx:=(List.getElem?_eq_some_iff.1 ht).1;rw[List.length_set] at hx;rw[List.getElem?_set_self (by omega)] at hs;rw[List.getElem?_set_self hx] at ht;cases hs;cases ht;exact keep _ _ _ ho
  ·rw[List.getElem?_set_ne e] at hs ht
   exact keep _ _ _ (h3 j s t hs ht)
 ·by_cases e:i=j
  ·subst e
   rw[List.getElem?_set_self (by omega)] at hs;rw[List.getElem?_set_ne hjk] at nU;cases hs;exact (hap k s' nU (fun e=>hjk e.symm)).2
  ·rw[List.getElem?_set_ne e] at hs
   by_cases e':i=k
   ·subst e'
    rw[List.getElem?_set_self (by omega)] at nU;cases nU;exact (hap j s hs (fun e9=>e e9.symm)).1
   ·rw[List.getElem?_set_ne e'] at nU
    exact h4 j k s s' hjk hs nU
def mJ (w:World) (B:Nat) (v:Value) (c:List (List aj)):Prop:=(v=.slice none 0 0∧c=[])∨∃g cap rs,v=.slice (some ⟨g,0,none⟩) c.length cap∧jL w B (.slice (some ⟨g,0,none⟩) c.length cap) c.length rs c
theorem jL.mono {w:World} {B B' n:Nat} {v:Value} {rs:List wJ} {x:List (List aj)} (h:jL w B v n rs x) (hb:B'≤B):jL w B' v n rs x:=⟨h.1,bC hb h.2.1,fun i s t hs ht=>bC hb (h.2.2.1 i s t hs ht),h.2.2.2⟩
theorem jM {c:List (List aj)} (h:cF c=true):c.length≤1000∧∀t∈c,t.length≤1000:=by unfold cF at h;simp only[Bool.and_eq_true,decide_eq_true_eq,List.all_eq_true] at h;exact ⟨h.2.2,fun t ht=>by have:=fY (h.1 t ht);omega⟩
theorem Ja (c:List (List aj)) (n no:Int) (hn:aP n) (v1:Value) (w:World) (h1:dI w v1 c):Calls Tryz.prog 28 #[v1,.int .i64 n,.int .i64 no] w (fun e w'=>∃v,e=.returned (.tuple #[v,.int .i64 (bL c n no).2.1,.int .i64 (bL c n no).2.2.1,.bool (bL c n no).2.2.2])∧mJ w' w.heap.size v (bL c n no).1∧Bw w w'):=by
 have dS:=aa (tY c v1 w h1);have TA:=aa (fun (hm:cF c=true) (W:World) (hb:Bw w W)=>DL c v1 W (h1.keep (af hb)) (jM hm).1 (jM hm).2);obtain ⟨m,hm⟩:=aG (cF c);have HM:=aa hm;rw[hm] at dS TA;obtain ⟨r,hr⟩:=aG (bL c n no);have HR:=aa hr;rw[hr];unfold bL at HR;clear hr;obtain ⟨p,cp,rfl,a1,a2,ha⟩:=h1;have HA:=aa ha;obtain ⟨N,hN⟩:=aG c.length;rw[hN] at a1 dS TA;rw[hN];have hlc:=fK (n:=N) a2;have HN:=aa hN;clear ha hN a1 a2 hm;have HI:=aa hn;clear hn;go_enter Tryz.func28,Tryz.ntmps28;cases m with
 |false=>have HE:=aa (show r=([],0,0,false) by rw[← HR.o,if_neg (by rw[HM.o];simp)]);go_wp2_with (go_at_call 63;(with_reducible refine dS.o.mono ?_);rintro e w5 ⟨rfl,aR⟩;have bA:=aa aR;clear aR);refine au (v:=.tuple #[.slice none 0 0,.int .i64 0,.int .i64 0,.bool false]) ⟨.slice none 0 0,by rw[HE.o],by rw[HE.o];exact .inl ⟨rfl,rfl⟩,bA⟩ ?_;simp[results,Tryz.results28,go_sem]
 |true=>
  have HE:=aa (show (match iU n no 0 c with|some (i,t,a)=>(c.set i t,(i:Int),a,true)|none=>([],0,0,false))=r by have h:=HR.o;rw[if_pos HM.o] at h;exact h);have yZ:=aa (show N≤1000 by rw[← HN.o];exact (jM HM).1);go_upto_region 3 with (go_at_call 63;(with_reducible refine dS.o.mono ?_);rintro e w5 ⟨rfl,aR⟩;have bA:=aa aR;clear aR);go_wp2_with fail;go_loopw [21,10,11,12,13,14] (fun i _ _ _ _ _ wr=>∃k:Nat,k≤N∧i=.int .i64 k∧iU n no 0 c=iU n no k (c.drop k)∧Bw w wr) (fun i _ _ _ _ _ _=>N-(intOf i).toNat)
  case atStart=>exact ⟨0,dQ,rfl,by rw[List.drop_zero],bA⟩
  case round=>
   obtain ⟨k,hk,rfl,heq,hb⟩:=hrel;have xT:=aa heq;have HB:=aa hb;clear heq hb;by_cases hlt:k<N
   case neg=>
    obtain rfl:k=N:=by omega
    have HG:=aa (show r=([],0,0,false) by rw[← HE.o,xT.o,List.drop_of_length_le (by rw[HN.o];exact aT)];rfl);go_wp2_with fail;refine au (v:=.tuple #[.slice none 0 0,.int .i64 0,.int .i64 0,.bool false]) ⟨.slice none 0 0,by rw[HG.o],by rw[HG.o];exact .inl ⟨rfl,rfl⟩,HB⟩ ?_;simp[results,Tryz.results28,go_sem]
   case pos=>
    have fO:(k:Int)<(N:Int):=(by omega);have Np:(0:Int)≤(k:Int):=by omega
    obtain ⟨t,ht⟩:=fy (l:=c) (k:=k) (by rw[HN.o];omega);obtain ⟨g,o,u1,rfl,x1,x2⟩:=HA.o k _ ht;obtain ⟨pu,cu,rfl,_⟩:=id x2;have r0:=ae HB x1;have sJ:=aa (fun (W:World) (hb:Bw w W)=>I7 t n HI _ W (x2.keep (af hb)));have fS:=aa (AG (n:=n) (no:=no) ht);clear ht x1 x2;obtain ⟨q,hq⟩:=aG (gB t n);obtain ⟨t2,a,b⟩:=q;rw[hq] at sJ fS;clear hq;simp only at sJ fS;by_cases hno:(k:Int)=no
    case pos=>
     have MO:=aa (show iU n no 0 c=iU n no (k+1) (c.drop (k+1)) by rw[xT.o,fS.o,if_neg (fun h=>h.2 hno)]);have Hs:((k:Int)==no)=true:=by simpa using hno
     clear hno;go_wp2_with fail;go_roundw
     case rel=>exact ⟨k+1,by omega,by go_num,MO.o,HB.o⟩
     case measure=>simp[intOf];omega
    case neg=>
    have Hs:((k:Int)==no)=false:=(by simpa using hno);have oP:=aa hno;clear hno;cases b with
    |false=>
     have MO:=aa (show iU n no 0 c=iU n no (k+1) (c.drop (k+1)) by rw[xT.o,fS.o,if_neg (fun h=>by cases h.1)]);go_wp2_with (go_at_call 76;(with_reducible refine (sJ.o _ HB.o).mono ?_);rintro e w6 ⟨v6,rfl,Yl,cW⟩;have cQ:=aV HB cW;clear cW Yl);go_roundw
     case rel=>exact ⟨k+1,by omega,by go_num,MO.o,cQ.o⟩
     case measure=>simp[intOf];omega
    |true=>
     have HG:=aa (show r=(c.set k t2,(k:Int),a,true) by rw[← HE.o,xT.o,fS.o,if_pos ⟨rfl,oP⟩]);go_upto_region 10 with (first|(go_at_call 76;(with_reducible refine (sJ.o _ HB.o).mono ?_);(rintro e w6 ⟨v6,rfl,Yl,cW⟩);(obtain ⟨s6,hs6⟩:=(fw Yl).sl);(unfold ik at hs6);(subst hs6);(have FL:=aa Yl);(have cQ:=aV HB cW);(have alT:=aa cW.size);(clear cW Yl))|(go_at_call 77;(with_reducible refine (TA.o (by trivial) _ cQ.o).mono ?_);(rintro e w7 ⟨g7,af6,rs7,rfl,MP,dO⟩);(have ES:=aa MP);(have fg:=aV cQ dO);(have pY:=aa (aM FL.o dO));(clear dO MP)));obtain ⟨s0,hs0⟩:∃s,rs7[k]?=some s:=⟨_,List.getElem?_eq_getElem (by rw[ES.o.1];exact hlt)⟩
     have c0:w7.cell? ⟨g7,k,none⟩=some (ik s0):=by obtain ⟨h6,h7⟩:=List.getElem?_eq_some_iff.1 (eQ lJ rs7 k s0 0 (ik s0) hs0 rfl);have:=bJ ES.2.1 _ h6;rw[h7] at this;simpa using this
     have f0:=gC ES.2.1 k;have oD:=aa (jL.set (i:=k) (s2:=s6) (l:=t2) (ES.mono (Nat.le_trans HB.size (by have:=FL.o;have h2:=alT.o;exact h2))) (bC HB.size pY) (fun j s hs hj=>by
      have Ur:j<c.length:=by rw[HN.o,← ES.o.1];exact (List.getElem?_eq_some_iff.1 hs).1
      have h:=ES.2.2.1 j s _ hs (List.getElem?_eq_getElem Ur);have h9:=sq FL h;exact ⟨h9.2,h9.1⟩) hlt)
     have ux:=aa (fg.setCell (p:=⟨g7,k,none⟩) (Nat.le_trans cQ.size (ES.2.1.lt g7 rfl).1) (ik s6));unfold ik at c0 oD ux;clear r0 hs0;go_wp2_with fail;refine au (v:=.tuple #[.slice (some ⟨g7,0,none⟩) N af6,.int .i64 k,.int .i64 a,.bool true]) ⟨_,by rw[HG.o],by rw[HG.o];exact .inr ⟨g7,af6,_,by rw[List.length_set,HN.o],by rw[List.length_set,HN.o];exact oD⟩,ux⟩ ?_;simp[results,Tryz.results28,go_sem]
theorem yA {w:World} {B n k g j nk ck:Nat} {e:TypeId} {v u:Value} {xs ys:List Value} (h:w.ownsRow B e k v n xs) (hs:w.ownsRow B 9 1 (.slice (some ⟨g,0,none⟩) nk ck) nk ys) (hne:e≠9):(w.setCell ⟨g,j,none⟩ u).ownsRow B e k v n xs:=
 h.kept (aw w g j u) (by
  rcases cR h hs hne with h1|h1
  ·exact .inl h1
  ·exact .inr h1)
theorem dx.cells' {α:Type} {w:World} {p:Option Addr} {n c k:Nat} {f:α→List Value} {l:List α} (h:dx w (.slice p n c) k f l):∀i x,l[i]?=some x→∃g o,p=some ⟨g,o,none⟩∧∀j u,(f x)[j]?=some u→w.cell? ⟨g,o+i*k+j,none⟩=some u:=h.cells
theorem dE {w:World} {B k n b j:Nat} {e:TypeId} {v u:Value} {xs:List Value} (h:w.ownsRow B e k v n xs) (hb:∀g,v.ownBlock=some g→g≠b):(w.setCell ⟨b,j,none⟩ u).ownsRow B e k v n xs:=
 h.kept (aw w b j u) (by
  cases hv:v.ownBlock with
  |none=>exact .inl rfl
  |some g=>right;intro e;injection e with e;exact hb g hv e)
def af9 (w:World) (B:Nat) (T:List ByteArray) (N M L:Nat) (cache:List fB) (keep:List Bool) (vk vc vp:Value) (f:Int) (dd:Bool) (i:Value) (wr:World):Prop:=∃(k:Nat) (s:List ByteArray),k≤M∧i=.int .i64 k∧s.length=N∧cM (cache.drop k) (keep.drop k) s=T∧wr.ownsRow B 9 1 vk N (bn lg s)∧wr.ownsRow B 47 2 vc M (bn lG cache)∧wr.ownsRow B 4 1 vp L (bS keep) ∧
 aJ wr w.heap.size [vk,vc,.int .i64 f,vp,.bool dd]∧aJ wr (w.heap.size+1) [.slice none 0 0,.slice none 0 0,.int .i64 0,.slice none 0 0,.bool false]∧Below B w wr
theorem TG (d:aL) (vk vc vp:Value) (w:World) (B:Nat) (hBw:B≤w.heap.size) (h:cZ w B d vk vc vp) (pV:∀p∈d.cache,0≤p.1∧p.1<d.kept.length) (hl:d.kept.length≤1000000∧d.cache.length≤1000000∧d.keep.length≤1000000):Calls Tryz.prog 136 #[eE d vk vc vp,vp] w fun e w'=>∃vk' vc' vp',e=.returned (eE ⟨cM d.cache d.keep d.kept,[],-1,[],true⟩ vk' vc' vp')∧cZ w' B ⟨cM d.cache d.keep d.kept,[],-1,[],true⟩ vk' vc' vp'∧Below B w w':=by
 obtain ⟨pk,ck,rfl⟩:=eF h.kept;obtain ⟨pc,cc,rfl⟩:=eF h.cache;obtain ⟨pp,cp,rfl⟩:=eF h.keep;have HK:=aa h.kept;have HC:=aa h.cache;have HP:=aa h.keep;have fL:=aa h.bd;have KY:=aa pV;obtain ⟨kept,cache,ah,keep,dead⟩:=d;simp only at HK HC HP KY hl ⊢;clear h pV;unfold eE;simp only;have mX:=aa hBw;have FO:=aa (show ∀s∈cM cache keep kept,s.size≤maxLen from fun s hs=>by
  rcases pj _ _ _ s hs with h|⟨p,h,rfl⟩
  ·exact fL.kept s h
  ·exact (fL.cache p h).2)
 have Aj:=aa (uV cache keep kept);obtain ⟨T,hT⟩:=aG (cM cache keep kept);rw[hT] at FO Aj ⊢;have HT:=aa hT;obtain ⟨N,hN⟩:=aG kept.length;obtain ⟨M,hM⟩:=aG cache.length;obtain ⟨L,hL⟩:=aG keep.length;have HN:=aa hN;have HM:=aa hM;have HL:=aa hL;rw[hN] at HK KY hl Aj;rw[hM] at HC hl;rw[hL] at HP hl;rw[hN,hM,hL];obtain ⟨l1,l2,l3⟩:=hl;have lN:(N:Int)≤9223372036854775807:=by omega
 have lM:(M:Int)≤9223372036854775807:=by omega
 have lL:(L:Int)≤9223372036854775807:=by omega
 have Ie:=aa (show ∀g,(Value.slice pk N ck).ownBlock=some g→g≠w.heap.size from fun g hg e=>by have:=(HK.lt g hg).2;omega);have Pu:=aa (show ∀g,(Value.slice pk N ck).ownBlock=some g→g≠w.heap.size+1 from fun g hg e=>by have:=(HK.lt g hg).2;omega);clear hT hN hM hL hBw;obtain ⟨W1,hW1⟩:=aG ((w.alloc (.cells #[.slice pk N ck,.slice pc M cc,.int .i64 ah,.slice pp L cp,.bool dead] 26)).alloc (.cells #[.slice none 0 0,.slice none 0 0,.int .i64 0,.slice none 0 0,.bool false] 26));have aU:=aa (zb w [.slice pk N ck,.slice pc M cc,.int .i64 ah,.slice pp L cp,.bool dead] [.slice none 0 0,.slice none 0 0,.int .i64 0,.slice none 0 0,.bool false] 26 26);rw[hW1] at aU;have ed:=aa hW1;clear hW1;go_enter Tryz.func136,Tryz.ntmps136;go_upto_region 1 with fail;rw[ed.o];clear ed;obtain ⟨x0,x1,x2,x3,x4⟩:=aU.1.five;go_wp2_with fail;clear x0 x1 x2 x3 x4;go_loopw [10,5,6] (fun i _ _ wr=>af9 w B T N M L cache keep (.slice pk N ck) (.slice pc M cc) (.slice pp L cp) ah dead i wr) (fun i _ _ _=>M-(intOf i).toNat)
 case atStart=>exact ⟨0,kept,dQ,rfl,HN,by rw[List.drop_zero,List.drop_zero];exact HT,aM HK aU.2.2,aM HC aU.2.2,aM HP aU.2.2,aU.1,aU.2.1,aU.2.2.mono mX⟩
 case round=>
  obtain ⟨k,s,hk,rfl,xD,tF,H7,G3,hrp,hx,hr,hb⟩:=hrel;have ML:=aa xD;have kg:=aa tF;have JX:=aa H7;have HRC:=aa G3;have HRP:=aa hrp;have HX:=aa hx;have HR:=aa hr;have HB:=aa hb;obtain ⟨x0,x1,x2,x3,x4⟩:=hx.five;clear xD tF H7 G3 hrp hx hr hb;by_cases hlt:k<M
  case neg=>
   obtain rfl:k=M:=by omega
   have kQ:=aa (show s=T by rw[← kg.o,lI (.inl (by rw[HM.o];exact aT))]);have fx0:=HX.free 1;have fx1:=HX.free 3;have fx2:=HX.free 2;have fx3:=HX.free 4;go_upto_region 10 with fail;have hx2:=(((HX.set 1 (.slice none 0 0)).set 3 (.slice none 0 0)).set 2 (.int .i64 (-1))).set 4 (.bool true);simp only[List.set_cons_zero,List.set_cons_succ] at hx2;have hr2:=(((HR.far (b':=w.heap.size) (by omega) 1 (.slice none 0 0)).far (b':=w.heap.size) (by omega) 3 (.slice none 0 0)).far (b':=w.heap.size) (by omega) 2 (.int .i64 (-1))).far (b':=w.heap.size) (by omega) 4 (.bool true);have hb2:=(((HB.setCell (p:=⟨w.heap.size,1,none⟩) mX (.slice none 0 0)).setCell (p:=⟨w.heap.size,3,none⟩) mX (.slice none 0 0)).setCell (p:=⟨w.heap.size,2,none⟩) mX (.int .i64 (-1))).setCell (p:=⟨w.heap.size,4,none⟩) mX (.bool true);have hk2:(((( wr.setCell ⟨w.heap.size,1,none⟩ (.slice none 0 0)).setCell ⟨w.heap.size,3,none⟩ (.slice none 0 0)).setCell ⟨w.heap.size,2,none⟩ (.int .i64 (-1))).setCell ⟨w.heap.size,4,none⟩ (.bool true)).ownsRow B 9 1 (.slice pk N ck) N (bn lg T):=by rw[← kQ.o];exact dE (dE (dE (dE JX Ie) Ie) Ie) Ie.o
   obtain ⟨W2,hW2⟩:=aG (((( wr.setCell ⟨w.heap.size,1,none⟩ (.slice none 0 0)).setCell ⟨w.heap.size,3,none⟩ (.slice none 0 0)).setCell ⟨w.heap.size,2,none⟩ (.int .i64 (-1))).setCell ⟨w.heap.size,4,none⟩ (.bool true));rw[hW2] at hx2 hr2 hb2 hk2 ⊢;have dY:=aa hx2;have js:=aa hr2;have bU:=aa hb2;have Vm:=aa hk2;clear hW2 hx2 hr2 hb2 hk2 x0 x1 x2 x3 x4 fx0 fx1 fx2 fx3;obtain ⟨x0,x1,x2,x3,x4⟩:=dY.five;obtain ⟨z0,z1,z2,z3,z4⟩:=js.five;obtain ⟨f0,f1,f2,f3,f4⟩:=js.ie;go_wp2_with fail;have K2:=aa (js.mZ (.slice pk N ck) (.slice none 0 0) (.int .i64 (-1)) (.slice none 0 0) (.bool true));obtain ⟨g0,g1,g2,g3,g4⟩:=K2.five;refine au (v:=.agg #[.slice pk N ck,.slice none 0 0,.int .i64 (-1),.slice none 0 0,.bool true]) ⟨_,_,_,rfl,⟨?_,World.ownsRow_nil _ _ _ _,World.ownsRow_nil _ _ _ _,⟨FO,fun p hp=>by simp at hp,by unfold aP;simp⟩⟩,cT bU (b:=w.heap.size+1) (by have:=mX.o;omega) _ _ _ _ _⟩ ?_
   ·simp only
    rw[Aj.o];exact dE (dE (dE (dE (dE Vm Pu) Pu) Pu) Pu) Pu.o
   simp[results,Tryz.results136,go_sem,g0,g1,g2,g3,g4]
  case pos=>
   have fO:(k:Int)<(M:Int):=(by omega);have Np:(0:Int)≤(k:Int):=by omega
   obtain ⟨⟨y,u⟩,hs⟩:∃s,cache[k]?=some s:=⟨_,List.getElem?_eq_getElem (by rw[HM.o];exact hlt)⟩
   obtain ⟨g,o,rfl,hcell⟩:=(kz mC HM HRC).cells' k _ hs;have r0:=hcell 0 _ rfl;have r1:=hcell 1 _ rfl;replace r0:wr.cell? ⟨g,o+k*2,none⟩=some (.int .i64 y):=r0;replace r1:wr.cell? ⟨g,o+k*2+1,none⟩=some (.string u):=r1;obtain ⟨y0,y1⟩:=KY.o _ (List.mem_of_getElem? hs);simp only at y0 y1;have HS:=aa hs;clear hcell hs;by_cases vM:k<L
   case neg=>
    have fS:=aa (show cM (cache.drop (k+1)) (keep.drop (k+1)) s=T by
     have h:=kg.o;rw[lI (.inr (by rw[HL.o];omega))] at h;rw[lI (.inr (by rw[HL.o];omega))];exact h)
    have hd:decide ((k:Int)<(L:Int))=false:=decide_eq_false (by omega);have Rj:decide (k<L)=false:=decide_eq_false vM;go_wp2_with fail;go_roundw
    case rel=>have jf:Bw wr (wr.alloc (.cells #[.int .i64 y,.string u] 47)):=aq;exact ⟨k+1,s,by omega,by go_num,ML.o,fS.o,aM JX.o jf,aM HRC.o jf,aM HRP.o jf,HX.o.below jf,HR.o.below jf,HB.o.trans (jf.mono (Nat.le_trans mX.o (by have:=HR.o.lt;omega)))⟩
    case measure=>simp[intOf];omega
   case pos=>
    have alX:(k:Int)<(L:Int):=(by omega);have hd:decide ((k:Int)<(L:Int))=true:=decide_eq_true alX;have Rj:decide (k<L)=true:=decide_eq_true vM;obtain ⟨bb,yV⟩:∃b,keep[k]?=some b:=⟨_,List.getElem?_eq_getElem (by rw[HL.o];exact vM)⟩
    obtain ⟨gp,op,rfl,rb⟩:=(eI HL HRP).cells k _ yV;have fS:=aa (sW (s:=s) HS yV);simp only at fS;clear yV;cases bb with
    |false=>
     have WZ:=aa (show cM (cache.drop (k+1)) (keep.drop (k+1)) s=T by rw[← kg.o,fS.o];rfl);obtain ⟨W2,hW2⟩:=aG (wr.alloc (.cells #[.int .i64 y,.string u] 47));have jf:Bw wr W2:=by rw[← hW2];exact aq
     have jr:=aa jf;have FQ:=aa (ae jf rb);go_upto_region 4 with fail
     try rw[hW2]
     clear hW2 jf rb;have rb:=FQ.o;go_wp2_with fail;go_roundw
     case rel=>exact ⟨k+1,s,by omega,by go_num,ML.o,WZ.o,aM JX.o jr.o,aM HRC.o jr.o,aM HRP.o jr.o,HX.o.below jr.o,HR.o.below jr.o,HB.o.trans (jr.o.mono (Nat.le_trans mX.o (by have:=HR.o.lt;omega)))⟩
     case measure=>simp[intOf];omega
    |true=>
     obtain ⟨Y,rfl⟩:∃Y:Nat,y=Y:=⟨y.toNat,by omega⟩
     have WZ:=aa (show cM (cache.drop (k+1)) (keep.drop (k+1)) (s.set Y u)=T by rw[← kg.o,fS.o,if_pos rfl,Int.toNat_natCast]);rcases aK JX.o with ⟨_,e,_⟩|⟨gk,atl,hvk⟩
     ·omega
     injection hvk with e1 _ e3;subst e1;subst e3;have fk:=gC JX Y;obtain ⟨z,hz⟩:=fy (l:=s) (k:=Y) (by rw[ML.o];omega);have ck0:wr.cell? ⟨gk,Y,none⟩=some (.string z):=by obtain ⟨h6,h7⟩:=List.getElem?_eq_some_iff.1 (eQ ji s Y z 0 (.string z) hz rfl);have:=bJ JX _ h6;rw[h7] at this;simpa using this
     have hgk:=(JX.lt gk rfl).2;obtain ⟨W2,hW2⟩:=aG (wr.alloc (.cells #[.int .i64 Y,.string u] 47));have jf:Bw wr W2:=by rw[← hW2];exact aq
     have pT:=aa (show aJ W2 wr.heap.size [.int .i64 Y,.string u] by rw[← hW2];exact aJ.new wr _ _);have TH:=aa (aM JX jf);have alZ:=aa (aM HRC jf);have al0:=aa (aM HRP jf);have dY:=aa (HX.below jf);have js:=aa (HR.below jf);have bU:=aa (HB.trans (jf.mono (Nat.le_trans mX (by have:=HR.lt;omega))));have FQ:=aa (And.intro (ae jf rb) (ae jf ck0));have HZ:=aa hz;go_upto_region 4 with fail
     try rw[hW2]
     clear hW2 jf x0 x1 x2 x3 x4 r0 r1 rb fk ck0 hz;obtain ⟨x0,x1,x2,x3,x4⟩:=dY.five;obtain ⟨p0,p1⟩:=pT.two;have fk:=gC TH Y;obtain ⟨rb,ck0⟩:=FQ.o;go_wp2_with fail;have Vl:=aa (zm ji TH (show Y<s.length by rw[ML.o];omega) (x:=u) (a:=.string u) rfl);have Q5:=aa (yA (j:=Y) (u:=.string u) alZ TH (by decide));have HPS:=aa (yA (j:=Y) (u:=.string u) al0 TH (by decide));have hg1:=Ie.o gk rfl;have hg2:=Pu.o gk rfl;have HXS:=aa (dY.far (b':=gk) hg1 Y (.string u));have NR:=aa (js.far (b':=gk) hg2 Y (.string u));have ux:=aa (bU.setCell (p:=⟨gk,Y,none⟩) (TH.lt gk rfl).1 (.string u));go_roundw
     case rel=>exact ⟨k+1,s.set Y u,by omega,by go_num,by rw[List.length_set];exact ML.o,WZ.o,Vl.o,Q5.o,HPS.o,HXS.o,NR.o,ux.o⟩
     case measure=>simp[intOf];omega
theorem iM {w:World} {B k n:Nat} {e:TypeId} {v:Value} {xs:List Value} (h:w.ownsRow B e k v n xs):∃p m c,v=.slice p m c:=by obtain ⟨p,c,h⟩:=eF h;exact ⟨p,n,c,h⟩
theorem aJ.gX {W W':World} {b B:Nat} {cs:List Value} (h:aJ W b cs) (hb:Below B W W') (hlt:b<B):aJ W' b cs:=by obtain ⟨T,h⟩:=h;exact ⟨T,(hb.block b hlt).trans h⟩
theorem TI:(Tryz.prog.info? 47).map (fun i=>(i.zero,i.size,i.bytes))=some (some (.agg #[.int .i64 0,.string ⟨#[]⟩]),2,24):=by kernel_rfl
theorem Jb (W:World) (B n:Nat) (v:Value) (l:List fB) (x:fB) (hown:W.ownsRow B 47 2 v n (bn lG l)) (hn:n≤100000000) (hB:B≤W.heap.size) :
 ∃g cap w2,(Builtin.append_ #[23,23] 23 #[v,.slice (some ⟨W.heap.size,0,none⟩) 1 1]).run Tryz.prog (W.alloc (.cells #[.int .i64 x.1,.string x.2] 47))=.ok (.slice (some ⟨g,0,none⟩) (n+1) cap) w2∧ky W w2 B n 47 2 v (bn lG l) (lG x) g cap:=by
 obtain ⟨i0,iP,hz0,hz1,hz2⟩:=info_parts TI;exact eY 23 47 i0 _ 2 24 Tryz.underlying23 iP hz0 hz1 hz2 rfl (by decide) (by decide) W B n v (bn lG l) (lG x) hown rfl (by intro u hu;unfold lG at hu;simp only[List.mem_cons,List.not_mem_nil,or_false] at hu;rcases hu with rfl|rfl <;> rfl) hn hB
def TJ (w:World) (r:aL×Int) (e:Ending) (w':World):Prop:=∃vk vc vp,e=.returned (.tuple #[eE r.1 vk vc vp,.int .i64 r.2])∧cZ w' w.heap.size r.1 vk vc vp∧Bw w w'
theorem yB (d:aL) (pos:Int) (s:ByteArray) (vk vc vp:Value) (w:World) (h:bP w d vk vc vp) (vM:d.keep.length≤1000000) (hs:s.size≤maxLen) (tQ:aP pos):Calls Tryz.prog 83 #[eE d vk vc vp,.int .i64 pos,.string s] w (TJ w (cC d pos s)):=by
 have dS:=aa (fun (W:World) (hb:Bw w W)=>xm d vk vc vp W (h.below hb));have tG:=aa (fun (hm:gu d=true) (W:World) (hb:Bw w W)=>LF d vk vc vp W (h.below hb) (by have:=((fW d).1 hm).1;omega));obtain ⟨pk,ck,rfl,a1,a2⟩:=h.kept.slice;obtain ⟨pc,cc,rfl,b1,b2⟩:=h.cache.slice;obtain ⟨pp,cp,rfl,_,_⟩:=h.keep.slice;obtain ⟨r,hr⟩:=aG (cC d pos s);rw[hr];have HR:=aa hr;unfold cC at HR;obtain ⟨m,hm⟩:=aG (gu d);have zj:=aa (fW d);rw[hm] at dS tG HR zj;have HM:=aa hm;have fL:=aa h.bd;obtain ⟨kept,cache,ah,keep,dead⟩:=d;simp only at a1 b1 vM HR zj fL ⊢;unfold eE Ty at *;simp only at dS tG ⊢;have QS:=aa (fun (W:World)=>xj pk pc pp kept.length ck cache.length cc keep.length cp ah pos dead W (by omega));obtain ⟨N,hN⟩:=aG kept.length;obtain ⟨M,hM⟩:=aG cache.length;obtain ⟨L,hL⟩:=aG keep.length;rw[hN,hM,hL] at dS tG QS ⊢;rw[hN,hM] at HR zj;rw[hN] at a1;rw[hM] at b1;rw[hL] at vM;have HN:=aa hN;have sG:=aa hM;have KH:=aa hL;have lN:=fK (n:=N) a2;have lM:=fK (n:=M) b2;have lS:=fK (n:=s.size) hs;have S9:=aa (And.intro hs tQ);have vN:=aa vM;clear h hr hm hN hM hL a1 a2 b1 b2 hs tQ vM;obtain ⟨W1,hW1⟩:=aG ((w.alloc (.cells #[.slice pk N ck,.slice pc M cc,.int .i64 ah,.slice pp L cp,.bool dead] 26)).alloc (.cells #[.slice none 0 0,.slice none 0 0,.int .i64 0,.slice none 0 0,.bool false] 26));have aU:=aa (zb w [.slice pk N ck,.slice pc M cc,.int .i64 ah,.slice pp L cp,.bool dead] [.slice none 0 0,.slice none 0 0,.int .i64 0,.slice none 0 0,.bool false] 26 26);rw[hW1] at aU;have ed:=aa hW1;clear hW1;go_enter Tryz.func83,Tryz.ntmps83;go_upto_region 1 with fail;rw[ed.o];clear ed;obtain ⟨x0,x1,x2,x3,x4⟩:=aU.1.five;cases m with
 |false=>have HE:=aa (show r=(iZ,1) by rw[← HR.o,if_pos rfl]);go_wp2_with (go_at_call 62;(with_reducible refine (dS.o _ aU.o.2.2).mono ?_);rintro e w2 ⟨rfl,hb⟩;have bU:=aa (ak aU.o.2.2 hb);have js:=aa (aU.o.2.1.below hb);clear hb;obtain ⟨z0,z1,z2,z3,z4⟩:=js.o.five;obtain ⟨f0,f1,f2,f3,f4⟩:=js.o.ie);have HOD:=aa (show cZ w2 (w.heap.size+2) iZ (.slice none 0 0) (.slice none 0 0) (.slice none 0 0) from ⟨World.ownsRow_nil _ _ _ _,World.ownsRow_nil _ _ _ _,World.ownsRow_nil _ _ _ _,⟨fun s h=>by simp[iZ] at h,fun s h=>by simp[iZ] at h,by unfold iZ aP;simp⟩⟩);have tU:=aa (js.mZ (.slice none 0 0) (.slice none 0 0) (.int .i64 0) (.slice none 0 0) (.bool false));obtain ⟨g0,g1,g2,g3,g4⟩:=tU.five;refine au (v:=.tuple #[.agg #[.slice none 0 0,.slice none 0 0,.int .i64 0,.slice none 0 0,.bool false],.int .i64 1]) ⟨_,_,_,by rw[HE.o];rfl,by rw[HE.o];exact cZ.mono ((((((HOD).bk (by omega)).bk (by omega)).bk (by omega)).bk (by omega)).bk (by omega)) (by omega),cT bU (b:=w.heap.size+1) (by omega) _ _ _ _ _⟩ ?_;simp[results,Tryz.results83,go_sem,g0,g1,g2,g3,g4]
 |true=>
 have hr0:=HR.o;rw[if_neg (by simp)] at hr0;have xI:=aa hr0;clear hr0;go_upto_region 3 with (go_at_call 62;(with_reducible refine (dS.o _ aU.o.2.2).mono ?_);rintro e w2 ⟨rfl,hb⟩;have bU:=aa (ak aU.o.2.2 hb);have js:=aa (aU.o.2.1.below hb);have dY:=aa (aU.o.1.below hb);clear hb);clear x0 x1 x2 x3 x4;obtain ⟨x0,x1,x2,x3,x4⟩:=dY.five;have hS2:w.heap.size+2≤w2.heap.size:=by have:=js.lt;omega
 go_upto_region 4 with (go_at_call 135;(with_reducible refine (tG.o trivial _ bU.o).mono ?_);(rintro e w3 ⟨v1,v2,v3,rfl,ho,hb⟩);(obtain ⟨p3,c3,e1⟩:=eF ho.kept);(obtain ⟨q3,d3,e2⟩:=eF ho.cache);(obtain ⟨r3,e3,e4⟩:=eF ho.keep);(simp only at e1 e2 e4);(rw[HN.o] at e1);(rw[sG.o] at e2);(rw[KH.o] at e4);(subst e1;subst e2;subst e4);(unfold eE);(have qD:=aa (ho.mono hS2));(have dG:=aV bU hb);(have uz:=aa (js.o.below hb));(have kK:=aa (dY.o.below hb));(have hS3:=Nat.le_trans hS2 hb.size);(clear hb ho));obtain ⟨W4,qu⟩:=aG (w3.alloc (.cells #[.slice p3 N c3,.slice q3 M d3,.int .i64 ah,.slice r3 L e3,.bool dead] 26));have HQ4:=aa (show aJ W4 w3.heap.size [.slice p3 N c3,.slice q3 M d3,.int .i64 ah,.slice r3 L e3,.bool dead] by rw[← qu];exact aJ.new w3 _ _);have hb4:Bw w3 W4:=by rw[← qu];exact aq
 have pP:=aa (qD.low hb4);have gz:=aV dG hb4;have Hy:=aa (uz.below hb4);have jQ:=aa (kK.below hb4);rw[qu];clear qu hb4 x0 x1 x2 x3 x4;obtain ⟨x0,x1,x2,x3,x4⟩:=jQ.five;obtain ⟨y0,y1,y2,y3,y4⟩:=HQ4.five;cases dead with
 |true=>have HE:=aa (show r=(⟨kept,cache,ah,keep,true⟩,90) by rw[← xI.o,if_pos rfl]);obtain ⟨z0,z1,z2,z3,z4⟩:=Hy.five;obtain ⟨f0,f1,f2,f3,f4⟩:=Hy.ie;go_wp2_with fail;have tU:=aa (Hy.mZ (.slice p3 N c3) (.slice q3 M d3) (.int .i64 ah) (.slice r3 L e3) (.bool true));obtain ⟨g0,g1,g2,g3,g4⟩:=tU.five;refine au (v:=.tuple #[.agg #[.slice p3 N c3,.slice q3 M d3,.int .i64 ah,.slice r3 L e3,.bool true],.int .i64 90]) ⟨_,_,_,by rw[HE.o];rfl,by rw[HE.o];exact cZ.mono ((((((pP).bk (by omega)).bk (by omega)).bk (by omega)).bk (by omega)).bk (by omega)) (by omega),cT gz (b:=w.heap.size+1) (by omega) _ _ _ _ _⟩ ?_;simp[results,Tryz.results83,go_sem,g0,g1,g2,g3,g4]
 |false=>
 have yu:=xI.o;rw[if_neg (by simp)] at yu;have oG:=aa yu;clear yu;by_cases kV:pos<0∨(N:Int)≤pos∨¬s.size=32∨20000≤M
 case pos=>
  have HE:=aa (show r=(⟨kept,cache,ah,keep,false⟩,1) by rw[← oG.o,if_pos kV]);have hc:¬(0≤pos∧pos<(N:Int))∨((0≤pos∧pos<(N:Int))∧¬s.size=32)∨((0≤pos∧pos<(N:Int))∧s.size=32∧M=20000):=by have:=(zj.1 trivial).1.2.2.1;omega
  clear kV;rcases hc with h1|⟨h1,h2⟩|⟨h1,h2,h3⟩
  ·have HT:=aa (show decide (0≤pos∧pos<(N:Int))=false from decide_eq_false h1)
   clear h1;go_upto_region 7 with (go_at_call 116;(with_reducible refine (QS.o _).mono ?_);rintro e w5 ⟨rfl,hb⟩;rw[HT.o];have bA:=aV gz hb;have LM:=aa (Hy.o.below hb);have fQ:=aa (jQ.o.below hb);have zt:=aa (HQ4.o.below hb);have Cr:=aa (pP.o.low hb);clear hb);clear x0 x1 x2 x3 x4 y0 y1 y2 y3 y4;obtain ⟨y0,y1,y2,y3,y4⟩:=zt.five;have oG:=LM;obtain ⟨z0,z1,z2,z3,z4⟩:=oG.five;obtain ⟨f0,f1,f2,f3,f4⟩:=oG.ie;go_wp2_with fail;have tU:=aa (oG.mZ (.slice p3 N c3) (.slice q3 M d3) (.int .i64 ah) (.slice r3 L e3) (.bool false));obtain ⟨g0,g1,g2,g3,g4⟩:=tU.five;refine au (v:=.tuple #[.agg #[.slice p3 N c3,.slice q3 M d3,.int .i64 ah,.slice r3 L e3,.bool false],.int .i64 1]) ⟨_,_,_,by rw[HE.o];rfl,by rw[HE.o];exact cZ.mono ((((((Cr).bk (by omega)).bk (by omega)).bk (by omega)).bk (by omega)).bk (by omega)) (by omega),cT bA (b:=w.heap.size+1) (by omega) _ _ _ _ _⟩ ?_;simp[results,Tryz.results83,go_sem,g0,g1,g2,g3,g4]
  ·have HT:=aa (show decide (0≤pos∧pos<(N:Int))=true from decide_eq_true h1)
   have tt1:((s.size:Int) != 32)=true:=by simp;omega
   have tt2:(s.size != 32)=true:=(by simp[h2]);clear h1 h2;go_upto_region 7 with (go_at_call 116;(with_reducible refine (QS.o _).mono ?_);rintro e w5 ⟨rfl,hb⟩;rw[HT.o];have bA:=aV gz hb;have LM:=aa (Hy.o.below hb);have fQ:=aa (jQ.o.below hb);have zt:=aa (HQ4.o.below hb);have Cr:=aa (pP.o.low hb);clear hb);clear x0 x1 x2 x3 x4 y0 y1 y2 y3 y4;obtain ⟨y0,y1,y2,y3,y4⟩:=zt.five;have oG:=LM;obtain ⟨z0,z1,z2,z3,z4⟩:=oG.five;obtain ⟨f0,f1,f2,f3,f4⟩:=oG.ie;go_wp2_with fail;have tU:=aa (oG.mZ (.slice p3 N c3) (.slice q3 M d3) (.int .i64 ah) (.slice r3 L e3) (.bool false));obtain ⟨g0,g1,g2,g3,g4⟩:=tU.five;refine au (v:=.tuple #[.agg #[.slice p3 N c3,.slice q3 M d3,.int .i64 ah,.slice r3 L e3,.bool false],.int .i64 1]) ⟨_,_,_,by rw[HE.o];rfl,by rw[HE.o];exact cZ.mono ((((((Cr).bk (by omega)).bk (by omega)).bk (by omega)).bk (by omega)).bk (by omega)) (by omega),cT bA (b:=w.heap.size+1) (by omega) _ _ _ _ _⟩ ?_;simp[results,Tryz.results83,go_sem,g0,g1,g2,g3,g4]
  ·have HT:=aa (show decide (0≤pos∧pos<(N:Int))=true from decide_eq_true h1)
   have tt1:((s.size:Int) != 32)=false:=by simp;omega
   have tt2:(s.size != 32)=false:=(by simp[h2]);have tt3:((M:Int)==20000)=true:=by simp;omega
   have tt4:(M==20000)=true:=(by simp[h3]);clear h1 h2 h3;go_upto_region 7 with (go_at_call 116;(with_reducible refine (QS.o _).mono ?_);rintro e w5 ⟨rfl,hb⟩;rw[HT.o];have bA:=aV gz hb;have LM:=aa (Hy.o.below hb);have fQ:=aa (jQ.o.below hb);have zt:=aa (HQ4.o.below hb);have Cr:=aa (pP.o.low hb);clear hb x0 x1 x2 x3 x4;obtain ⟨x0,x1,x2,x3,x4⟩:=fQ.o.five);clear x0 x1 x2 x3 x4 y0 y1 y2 y3 y4;obtain ⟨y0,y1,y2,y3,y4⟩:=zt.five;have oG:=LM;obtain ⟨z0,z1,z2,z3,z4⟩:=oG.five;obtain ⟨f0,f1,f2,f3,f4⟩:=oG.ie;go_wp2_with fail;have tU:=aa (oG.mZ (.slice p3 N c3) (.slice q3 M d3) (.int .i64 ah) (.slice r3 L e3) (.bool false));obtain ⟨g0,g1,g2,g3,g4⟩:=tU.five;refine au (v:=.tuple #[.agg #[.slice p3 N c3,.slice q3 M d3,.int .i64 ah,.slice r3 L e3,.bool false],.int .i64 1]) ⟨_,_,_,by rw[HE.o];rfl,by rw[HE.o];exact cZ.mono ((((((Cr).bk (by omega)).bk (by omega)).bk (by omega)).bk (by omega)).bk (by omega)) (by omega),cT bA (b:=w.heap.size+1) (by omega) _ _ _ _ _⟩ ?_;simp[results,Tryz.results83,go_sem,g0,g1,g2,g3,g4]
 case neg=>
  have Sk:=oG.o;rw[if_neg kV] at Sk;have rU:=aa Sk;clear Sk;have HT:=aa (show decide (0≤pos∧pos<(N:Int))=true from decide_eq_true (by omega));have tt1:((s.size:Int) != 32)=false:=by simp;omega
  have tt2:(s.size != 32)=false:=by simp;omega
  have tt3:((M:Int)==20000)=false:=by simp;omega
  have tt4:(M==20000)=false:=by simp;omega
  have zr:=aa (show M<20000 by omega);have Vc:=aa (show 0≤pos∧pos<(N:Int) by omega);have al2:=aa (show s.size=32 by omega);have lz:=aa (show (kept.length=N∧(cache++[(pos,s)]).length=M+1∧keep.length=L) from ⟨HN,by rw[List.length_append,sG.o];rfl,KH⟩);clear kV;go_upto_region 8 with (go_at_call 116;(with_reducible refine (QS.o _).mono ?_);rintro e w5 ⟨rfl,hb⟩;rw[HT.o];have bA:=aV gz hb;have LM:=aa (Hy.o.below hb);have fQ:=aa (jQ.o.below hb);have zt:=aa (HQ4.o.below hb);have Cr:=aa (pP.o.low hb);clear hb x0 x1 x2 x3 x4;obtain ⟨x0,x1,x2,x3,x4⟩:=fQ.o.five);clear x0 x1 x2 x3 x4 y0 y1 y2 y3 y4 tt1 tt2 tt3 tt4;have y1:=zt.cell (j:=1) rfl;have hS5:w3.heap.size<w5.heap.size:=zt.lt;have HGB:=aa (show ∀v e k n xs,w3.ownsRow (w.heap.size+2) e k v n xs→∀g,v.ownBlock=some g→g≠w3.heap.size from fun v e k n xs h g hg e'=>by have:=(h.lt g hg).2;omega);have wM:=Cr.cache;simp only at wM;rw[sG.o] at wM;obtain ⟨g6,Ff,w6,hrun,cj⟩:=Jb w5 (w.heap.size+2) M _ cache (pos,s) wM (by have:=zr.o;omega) (by omega);simp only at hrun;have dM:=aa hrun;have yY:=aa cj;have UL:=Cr.kept;simp only at UL;rw[HN.o] at UL;have hpr:=Cr.keep;simp only at hpr;rw[KH.o] at hpr;have HKR:=aa ((cj.others _ _ _ _ _ _ UL (cR UL wM (by decide))).1);have VV:=aa ((cj.others _ _ _ _ _ _ hpr (cR hpr wM (by decide))).1);have MM:=aa cj.row;have hgo:=qD.cache;simp only at hgo;rw[sG.o] at hgo;have HG6:=aa (show g6≠w3.heap.size by
   rcases cj.at_ with e|e
   ·exact HGB _ _ _ _ _ hgo g6 (by rw[← e];rfl)
   ·omega)
  have hne:∀b,b<w.heap.size+2→some b≠(Value.slice q3 M d3).ownBlock:=fun b hb e=>by have:=(wM.lt b e.symm).1;omega
  have aaU:some w3.heap.size≠(Value.slice q3 M d3).ownBlock:=fun e=>HGB _ _ _ _ _ hgo _ e.symm rfl;have SA:=aa (zt.grown cj.grown aaU);have al3:=aa (LM.grown cj.grown (hne _ (by omega)));have cQ:=aa (show Bw w w6 from bA.trans (cj.below.mono (by omega)));have q61:=SA.cell (j:=1) rfl;have al4:=SA.free 1;have hkg:=qD.kept;have hpg:=qD.keep;have Ie:=aa (HGB.o _ _ _ _ _ hkg);have HGP:=aa (HGB.o _ _ _ _ _ hpg);clear hrun cj UL hpr wM hgo hne aaU hkg hpg;go_upto_region 9 with (at_builtin;refine Lib.wpList_append_run _ rfl _ _ _ _ rfl _ _ rfl rfl _ _ dM.o ?_);obtain ⟨W7,zn⟩:=aG (w6.setCell ⟨w3.heap.size,1,none⟩ (.slice (some ⟨g6,0,none⟩) (M+1) Ff));have HQ7:=aa (show aJ W7 w3.heap.size [.slice p3 N c3,.slice (some ⟨g6,0,none⟩) (M+1) Ff,.int .i64 ah,.slice r3 L e3,.bool false] by rw[← zn];exact SA.set 1 _);have EZ:=aa (show aJ W7 (w.heap.size+1) [.slice none 0 0,.slice none 0 0,.int .i64 0,.slice none 0 0,.bool false] by rw[← zn];exact al3.far (by omega) _ _);have fg:=aa (show Bw w W7 by rw[← zn];exact cQ.setCell (p:=⟨w3.heap.size,1,none⟩) (by show w.heap.size≤w3.heap.size;omega) _);have pY:=aa (show cZ W7 (w.heap.size+2) ⟨kept,cache++[(pos,s)],ah,keep,false⟩ (.slice p3 N c3) (.slice (some ⟨g6,0,none⟩) (M+1) Ff) (.slice r3 L e3) by
   rw[← zn];refine ⟨?_,?_,?_,⟨fL.kept,fun p hp=>?_,fL.ah⟩⟩
   ·simp only;rw[HN.o];exact dE HKR Ie.o
   ·simp only;rw[List.length_append,sG.o,← fF];exact dE MM (fun g hg=>by
     have:g=g6:=(by simpa [Value.ownBlock] using hg.symm);rw[this];exact HG6)
   ·simp only;rw[KH.o];exact dE VV HGP.o
   ·rcases List.mem_append.1 hp with hp|hp
    ·exact fL.cache p hp
    ·simp only[List.mem_singleton] at hp;subst hp;exact ⟨S9.2,S9.1⟩)
  rw[zn];clear zn y1 q61 al4;obtain ⟨y0,y1,y2,y3,y4⟩:=HQ7.five;have hS7:w3.heap.size<W7.heap.size:=HQ7.lt;by_cases hf0:ah=0
  case pos=>
   subst hf0;have HE:=aa (show r=(⟨cM (cache++[(pos,s)]) keep kept,[],-1,[],true⟩,90) by
    rw[← rU.o,if_pos rfl];unfold yU;rw[if_neg (by
     rw[Bool.not_eq_false,fW];obtain ⟨⟨k1,k2,k3,k4⟩,k5,k6⟩:=zj.1 trivial;simp only;refine ⟨⟨by rw[HN.o];omega,by rw[HN.o];omega,by rw[List.length_append,sG.o];have:=zr.o;simp;omega,by omega⟩,k5,fun p hp=>?_⟩;rcases List.mem_append.1 hp with hp|hp
     ·exact ⟨(k6 p hp).1,by rw[HN.o];exact (k6 p hp).2.1,(k6 p hp).2.2⟩
     ·simp only[List.mem_singleton] at hp;subst hp
      have h1:=Vc.o;refine ⟨h1.1,by rw[HN.o];exact h1.2,?_⟩;exact al2)])
   have EP:=aa (TG ⟨kept,cache++[(pos,s)],0,keep,false⟩ _ _ _ W7 (w.heap.size+2) (by omega) pY (fun p hp=>by
    obtain ⟨⟨k1,k2,k3,k4⟩,k5,k6⟩:=zj.1 trivial;simp only at hp ⊢;rcases List.mem_append.1 hp with hp|hp
    ·exact ⟨(k6 p hp).1,by rw[HN.o];exact (k6 p hp).2.1⟩
    ·simp only[List.mem_singleton] at hp;subst hp
     exact ⟨Vc.1,by rw[HN.o];exact Vc.2⟩) ⟨by
     have:=(zj.1 trivial).1.2.1;have h2:=HN.o;show kept.length≤1000000;omega,by
     have h2:=sG.o;have h3:=zr.o;show (cache++[(pos,s)]).length≤1000000;rw[List.length_append];simp;omega,by
     have h2:=KH.o;have h3:=vN.o;show keep.length≤1000000;omega⟩)
   unfold eE at EP;simp only at EP;go_upto_region 13 with fail;go_wp2_with (go_at_call 136;(with_reducible refine EP.o.mono ?_);(rintro e w8 ⟨v1,v2,v3,rfl,ho,hb⟩);(obtain ⟨p8,n8,c8,e1⟩:=iM ho.kept);(obtain ⟨q8,m8,d8,e2⟩:=iM ho.cache);(obtain ⟨r8,l8,e8,e4⟩:=iM ho.keep);(subst e1;subst e2;subst e4);(have Ct:=aa ho);(have gQ:=aa (fg.o.trans (hb.mono (by omega))));(have K2:=aa (EZ.o.gX hb (by omega)));(clear hb ho);obtain ⟨z0,z1,z2,z3,z4⟩:=K2.o.five;obtain ⟨f0,f1,f2,f3,f4⟩:=K2.o.ie);have tU:=aa (K2.mZ (.slice p8 n8 c8) (.slice q8 m8 d8) (.int .i64 (-1)) (.slice r8 l8 e8) (.bool true));obtain ⟨g0,g1,g2,g3,g4⟩:=tU.five;refine au (v:=.tuple #[.agg #[.slice p8 n8 c8,.slice q8 m8 d8,.int .i64 (-1),.slice r8 l8 e8,.bool true],.int .i64 90]) ⟨_,_,_,by rw[HE.o];rfl,by rw[HE.o];exact cZ.mono ((((((Ct).bk (by omega)).bk (by omega)).bk (by omega)).bk (by omega)).bk (by omega)) (by omega),cT gQ (b:=w.heap.size+1) (by omega) _ _ _ _ _⟩ ?_;simp[results,Tryz.results83,go_sem,g0,g1,g2,g3,g4]
  case neg=>
   have hfm : -1≤ah:=(zj.1 trivial).1.2.2.2;have WG:=rU.o;rw[if_neg hf0] at WG;have K2:=aa WG;clear WG;by_cases hfp:0<ah
   case pos=>
    have HE:=aa (show r=(⟨kept,cache++[(pos,s)],ah-1,keep,false⟩,0) by rw[← K2.o,if_pos hfp]);have tt1:decide (0<ah)=true:=decide_eq_true hfp;have HFB:=aa fL.ah;have HFP:=aa hfp;have atq:ah≤9223372036854775807:=(show -9223372036854775808≤ah∧ah≤9223372036854775807 from HFB).2;have q2f:=HQ7.free 2;clear hf0 hfm;go_upto_region 12 with fail;obtain ⟨W8,lK⟩:=aG (W7.setCell ⟨w3.heap.size,2,none⟩ (.int .i64 (ah-1)));have HQ8:=aa (show aJ W8 w3.heap.size [.slice p3 N c3,.slice (some ⟨g6,0,none⟩) (M+1) Ff,.int .i64 (ah-1),.slice r3 L e3,.bool false] by rw[← lK];exact HQ7.set 2 _);have al5:=aa (show aJ W8 (w.heap.size+1) [.slice none 0 0,.slice none 0 0,.int .i64 0,.slice none 0 0,.bool false] by rw[← lK];exact EZ.far (by omega) _ _);have gQ:=aa (show Bw w W8 by rw[← lK];exact fg.setCell (p:=⟨w3.heap.size,2,none⟩) (by show w.heap.size≤w3.heap.size;omega) _);have Ct:=aa (show cZ W8 (w.heap.size+2) ⟨kept,cache++[(pos,s)],ah-1,keep,false⟩ (.slice p3 N c3) (.slice (some ⟨g6,0,none⟩) (M+1) Ff) (.slice r3 L e3) by
     rw[← lK];refine ⟨dE pY.kept (fun g hg=>Ie g hg),dE pY.cache (fun g hg=>by
      have:g=g6:=(by simpa [Value.ownBlock] using hg.symm);rw[this];exact HG6),dE pY.keep (fun g hg=>HGP g hg),⟨pY.bd.kept,pY.bd.cache,show aP (ah-1) from by have h:=HFB.o;have h2:=HFP.o;have h3 : -9223372036854775808≤ah∧ah≤9223372036854775807:=h;show -9223372036854775808≤ah-1∧ah-1≤9223372036854775807;exact ⟨by omega,by omega⟩⟩⟩)
    try rw[lK]
    clear lK y0 y1 y2 y3 y4 q2f;obtain ⟨y0,y1,y2,y3,y4⟩:=HQ8.five;have Ii:=al5;obtain ⟨z0,z1,z2,z3,z4⟩:=Ii.five;obtain ⟨f0,f1,f2,f3,f4⟩:=Ii.ie;go_wp2_with fail;have tU:=aa (Ii.mZ (.slice p3 N c3) (.slice (some ⟨g6,0,none⟩) (M+1) Ff) (.int .i64 (ah-1)) (.slice r3 L e3) (.bool false));obtain ⟨g0,g1,g2,g3,g4⟩:=tU.five;refine au (v:=.tuple #[.agg #[.slice p3 N c3,.slice (some ⟨g6,0,none⟩) (M+1) Ff,.int .i64 (ah-1),.slice r3 L e3,.bool false],.int .i64 0]) ⟨_,_,_,by rw[HE.o];rfl,by rw[HE.o];exact cZ.mono ((((((Ct).bk (by omega)).bk (by omega)).bk (by omega)).bk (by omega)).bk (by omega)) (by omega),cT gQ (b:=w.heap.size+1) (by omega) _ _ _ _ _⟩ ?_;simp[results,Tryz.results83,go_sem,g0,g1,g2,g3,g4]
   case neg=>have hfe:ah = -1:=(by omega);subst hfe;have HE:=aa (show r=(⟨kept,cache++[(pos,s)],-1,keep,false⟩,0) by rw[← K2.o,if_neg hfp]);clear hf0 hfp hfm;obtain ⟨z0,z1,z2,z3,z4⟩:=EZ.five;obtain ⟨f0,f1,f2,f3,f4⟩:=EZ.ie;go_wp2_with fail;have tU:=aa (EZ.mZ (.slice p3 N c3) (.slice (some ⟨g6,0,none⟩) (M+1) Ff) (.int .i64 (-1)) (.slice r3 L e3) (.bool false));obtain ⟨g0,g1,g2,g3,g4⟩:=tU.five;refine au (v:=.tuple #[.agg #[.slice p3 N c3,.slice (some ⟨g6,0,none⟩) (M+1) Ff,.int .i64 (-1),.slice r3 L e3,.bool false],.int .i64 0]) ⟨_,_,_,by rw[HE.o];rfl,by rw[HE.o];exact cZ.mono ((((((pY).bk (by omega)).bk (by omega)).bk (by omega)).bk (by omega)).bk (by omega)) (by omega),cT fg (b:=w.heap.size+1) (by omega) _ _ _ _ _⟩ ?_;simp[results,Tryz.results83,go_sem,g0,g1,g2,g3,g4]
theorem LQ (x:List (List aj)) (v1:Value) (w:World) (h1:dI w v1 x) (hl:x.length≤1000) (TC:∀t∈x,t.length≤1000):Calls Tryz.prog 72 #[v1] w fun e w'=>∃g cap rs,e=.returned (.slice (some ⟨g,0,none⟩) x.length cap)∧jL w' w.heap.size (.slice (some ⟨g,0,none⟩) x.length cap) x.length rs x∧Bw w w':=by
 obtain ⟨p,cp,rfl,a1,a2,ha⟩:=h1;have HA:=aa ha;have aaQ:=aa TC;obtain ⟨N,hN⟩:=aG x.length;rw[hN] at a1 hl;rw[hN];have hlc:(N:Int)≤9223372036854775807:=by omega
 have HN:=aa hN;have rP:=aa hl;obtain ⟨w6,jP,hrow,cW⟩:=YK w N hl;have Ba:=aa hrow;have cQ:=aa cW;clear ha hN a1 a2 hrow cW hl TC;go_enter Tryz.func72,Tryz.ntmps72;go_wp2_with fail;clear jP;go_loopw [11,3,5] (fun i o _ wr=>∃(k:Nat) (g:Nat) (co:Nat) (rs:List wJ),k≤N∧i=.int .i64 k∧o=.slice (some ⟨g,0,none⟩) k co∧jL wr w.heap.size o k rs x∧Bw w wr) (fun i _ _ _=>N-(intOf i).toNat)
 case atStart=>exact ⟨0,_,_,[],dQ,rfl,rfl,⟨rfl,Ba,fun i s t hs=>by simp at hs,fun i j s s' _ hs=>by simp at hs⟩,cQ⟩
 case round=>
  obtain ⟨k,gr,co,rs,hk,rfl,rfl,hrow,hb⟩:=hrel;have bY:=aa hrow;have HB:=aa hb;clear hrow hb;by_cases hlt:k<N
  case neg=>
   obtain rfl:k=N:=by omega
   go_wp2_with fail;go_ret;exact ⟨gr,co,rs,rfl,bY,HB⟩
  case pos=>
   have fO:(k:Int)<(N:Int):=(by omega);obtain ⟨s,hs⟩:=fy (l:=x) (k:=k) (by rw[HN.o];omega);obtain ⟨g,o,u1,rfl,x1,x2⟩:=HA.o k _ hs;obtain ⟨su,rfl⟩:=x2.sl;have xD:=vq (x2.keep (af HB));unfold ik at *;have r0:=ae HB x1;have dS:=aa (kM su.1 su.2.1 su.2.2 (aI s) wr xD.2 (by have:=aaQ.o s (List.mem_of_getElem? hs);omega));have yN:=aa xD.1;have HS:=aa hs;clear hs x1 x2 xD;go_wp2_with (first|(go_at_call 78;(with_reducible refine dS.o.mono ?_);(rintro e w2 ⟨v2,rfl,ho,hb⟩);(obtain ⟨p2,c2,rfl⟩:=eF ho);(obtain ⟨g2,Tk,w3,hrun,cj⟩:=Bp w2 w.heap.size k _ rs (p2,su.2.1,c2) (aM bY.o.2.1 hb) (by have:=rP.o;omega) (Nat.le_trans HB.o.size hb.size));(have dM:=aa hrun);(have yY:=aa cj);(have nM:=aa ho);(have aaR:=aa (fun (v:Value) (n:Nat) (xs:List Value) (B:Nat) (h:wr.ownsRow B 52 4 v n xs)=>show eD v (ik (p2,su.2.1,c2))∧eD (ik (p2,su.2.1,c2)) v from sq h ho));(have JS:=aa (fun (i:Nat) (s:wJ) (t:List aj) (h1:rs[i]?=some s) (h2:x[i]?=some t)=>aM (bY.o.2.2.1 i s t h1 h2) hb));(have TD:=aa hb);(have dG:=aa (show Bw w w3 from (ak HB.o hb).trans cj.below));(clear hb hrun cj ho))|(at_builtin;refine Lib.wpList_append_run _ rfl _ _ _ _ rfl _ _ rfl rfl _ _ dM.o ?_));go_roundw
   case rel=>
    refine ⟨k+1,_,_,rs++[(p2,su.2.1,c2)],by omega,by go_num,rfl,⟨by rw[List.length_append,bY.o.1];rfl,by rw[← fF];exact yY.o.row,fun i s' t nU ht=>?_,fun i j s1 s2 xS h1 h2=>?_⟩,dG.o⟩
    rotate_left
    ·exact Bq bY.1 bY.2.2.2 (fun i s' nU=>by
      have hi:=(List.getElem?_eq_some_iff.1 nU).1;rw[bY.o.1] at hi;have h:=bY.2.2.1 i s' _ nU (List.getElem?_eq_getElem (by rw[HN.o];omega));exact aaR _ _ _ _ h) i j s1 s2 xS h1 h2
    by_cases e:i<k
    ·rw[List.getElem?_append_left (by rw[bY.o.1];exact e)] at nU
     have h:=JS.o i s' t nU ht;have hr2:=aM bY.2.1 (show Bw wr w2 from TD);exact (yY.others _ _ _ _ _ _ h (cR h hr2 (by decide))).1
    ·have hik:i=k:=by
      have:=(List.getElem?_eq_some_iff.1 nU).1;rw[List.length_append,bY.o.1] at this;simp at this;omega
     subst hik;rw[List.getElem?_append_right (by rw[bY.o.1];exact aT),bY.o.1,Nat.sub_self] at nU;simp only[List.getElem?_cons_zero,Option.some.injEq] at nU;subst nU;rw[HS.o] at ht;cases ht;have h:=bC HB.size nM.o;rw[yN.o] at h;have hr2:=aM bY.2.1 (show Bw wr w2 from TD);have h9:=(yY.others _ _ _ _ _ _ h (cR h hr2 (by decide))).1;unfold ik;simp only;rw[yN.o];exact h9
   case measure=>simp[intOf];omega
theorem uj (p:bX) (v:PV) (w:World) (h:bh w p v) (ls:bO p.av):Calls Tryz.prog 13 #[dZ p v] w fun e w'=>e=.returned (.int .i64 (mR p))∧Bw w w':=by
 obtain ⟨pk,nk,ck,pc,nc,cc,pp,np,cp,pv,nv,cv,pt,nt,ct,rfl⟩:=h.sl;have HM:=aa (fun (V:World) (hb:Bw w V)=>BK p _ V (h.keep (af hb)) ls);have HP:=aa h.tabs;obtain ⟨p5,c5,e1,a1,a2,_⟩:=h.tabs;injection e1 with e1 e2 e3;subst e1;subst e2;subst e3;clear h ls;have yg:=aa (fun (hm:cA p=true)=>(bF.1 hm).2.1);have HV:=aa (show mR p=if cA p=true then ke 0 p.tabs (-1) 0 else -1 from rfl);obtain ⟨r,hr⟩:=aG (mR p);rw[hr] at HV ⊢;clear hr;obtain ⟨m,hm⟩:=aG (cA p);rw[hm] at HM yg HV;clear hm;obtain ⟨⟨kept,cache,ah,keep,dead⟩,met,gen,aD,av,tabs⟩:=p;unfold dZ at *;simp only at HM yg HV HP a1 ⊢;obtain ⟨N,hN⟩:=aG tabs.length;have HN:=aa hN;rw[hN] at a1 HM HP ⊢;clear hN;obtain ⟨W1,hW1⟩:=aG (w.alloc (.cells #[.slice pk nk ck,.slice pc nc cc,.int .i64 ah,.slice pp np cp,.bool dead,.int .i64 met,.int .i64 gen,.int .i64 aD,.slice pv nv cv,.slice pt N ct] 30));have aU:=aa (show aJ W1 w.heap.size [.slice pk nk ck,.slice pc nc cc,.int .i64 ah,.slice pp np cp,.bool dead,.int .i64 met,.int .i64 gen,.int .i64 aD,.slice pv nv cv,.slice pt N ct] by rw[← hW1];exact aJ.new w _ _);have aZ:=aa (show Bw w W1 by rw[← hW1];exact aq);have ed:=aa hW1;clear hW1 a2;go_enter Tryz.func13,Tryz.ntmps13;go_upto_region 1 with fail;rw[ed.o];clear ed;obtain ⟨c0,c1,c2,c3,c4,c5,c6,c7,c8,c9⟩:=aU.ten;cases m with
 |false=>have HF:=aa (show r = -1 by rw[HV.o];rfl);go_wp2_with (go_at_call 25;(with_reducible refine (HM.o _ aZ.o).mono ?_);rintro e w2 ⟨rfl,hb⟩;have bU:=aV aZ hb;clear hb);go_ret;exact ⟨kP HF.symm,bU⟩
 |true=>
 have HR:=aa (show ke 0 tabs (-1) 0=r by rw[HV.o];rfl);have hN1:N≤1000:=by have h:=yg.o rfl;unfold cF at h;simp only[Bool.and_eq_true,decide_eq_true_eq] at h;rw[HN.o] at h;exact h.2.2
 have Wx:=aa (show ∀(i:Nat) t,tabs[i]?=some t→dD t=true from fun i t ht=>by
  have h:=yg.o rfl;unfold cF at h;simp only[Bool.and_eq_true,List.all_eq_true] at h;exact h.1 t (List.mem_of_getElem? ht))
 have hlc:(N:Int)≤9223372036854775807:=by omega
 go_upto_region 4 with (go_at_call 25;(with_reducible refine (HM.o _ aZ.o).mono ?_);rintro e w2 ⟨rfl,hb⟩;have bU:=aV aZ hb;have dY:=aa (aU.o.below hb);clear hb);clear c0 c1 c2 c3 c4 c5 c6 c7 c8 c9;have c9:=dY.cell (j:=9) rfl;go_wp2_with fail;clear c9;go_loopw [16,3,4] (fun i b f wr=>∃(k:Nat) (bi fi:Int),k≤N∧i=.int .i64 k∧b=.int .i64 bi∧f=.int .i64 fi∧ke k (tabs.drop k) bi fi=r∧Bw w wr) (fun i _ _ _=>N-(intOf i).toNat)
 case atStart=>exact ⟨0,-1,0,dQ,rfl,rfl,rfl,by rw[List.drop_zero];exact HR,bU⟩
 case round=>
  obtain ⟨k,bi,fi,hk,rfl,rfl,rfl,H7,hb⟩:=hrel;have JX:=aa H7;have HB:=aa hb;clear H7 hb;by_cases hlt:k<N
  case neg=>
   obtain rfl:k=N:=by omega
   have HF:=aa (show r=bi by rw[← JX.o,List.drop_of_length_le (by rw[HN.o];exact aT)];rfl);go_wp2_with fail;go_ret;exact ⟨kP HF.symm,HB⟩
  case pos=>
   have fO:(k:Int)<(N:Int):=(by omega);obtain ⟨t,ht⟩:=fy (l:=tabs) (k:=k) (by rw[HN.o];exact hlt);obtain ⟨g,o,u1,rfl,x1,x2⟩:=(mI HP) k _ ht;obtain ⟨s1,rfl⟩:=x2.sl;unfold ik at *;obtain ⟨pu,cu,eu,b1,b2,hu⟩:=x2;injection eu with e1 e2 e3;have HA:=aa hu;have r0:=ae HB x1;have fS:=aa (Jq bi fi ht);have HWY:=aa (fun j=>P3 (Wx k t ht) j);obtain ⟨M,hM⟩:=aG t.length;have sG:=aa hM;have hM1:M≤16:=by have:=fY (Wx k t ht);omega
   obtain ⟨sp,sn,sc⟩:=s1;simp only at e1 e2 e3 r0;subst e1;subst e3;rw[hM] at e2;subst e2;have Y8:(sn:Int)≤9223372036854775807:=by omega
   clear hu ht x1 b1 b2 hM;obtain ⟨wo,QQ⟩:∃wo,wo=wr:=⟨_,rfl⟩
   rw[← QQ] at HB r0 ⊢;clear QQ;go_upto_region 9 with fail;go_loopw [23,7] (fun i hl wr=>∃(j:Nat),j≤sn∧i=.int .i64 j∧hl=.int .i64 (fx (t.take j))∧Bw w wr) (fun i _ _=>sn-(intOf i).toNat)
   case atStart=>exact ⟨0,dQ,rfl,rfl,HB⟩
   case round=>
    obtain ⟨j,hj,rfl,rfl,hb⟩:=hrel;have dG:=aa hb;clear hb;obtain ⟨A,hA⟩:=aG (fx (t.take j));have hAb:0≤A∧A≤128:=by rw[← hA];exact HWY j
    have HAA:=aa hA;rw[hA];clear hA;by_cases jh:j<sn
    case neg=>
     obtain rfl:j=sn:=by omega
     have HHE:=aa (show fx t=A by
      rw[← HAA.o,List.take_of_length_le (by rw[sG.o];exact aT)])
     obtain ⟨q1,hq1⟩:∃q,decide (0<A)=q:=⟨_,rfl⟩
     obtain ⟨q2,B3⟩:∃q,decide (bi<0)=q:=⟨_,rfl⟩
     obtain ⟨q3,hq3⟩:∃q,decide (A<fi)=q:=⟨_,rfl⟩
     have MO:=aa (show (q1&&(q2 || q3))=true→ke (k+1) (tabs.drop (k+1)) k A=r from fun h=>by
      rw[← JX.o,fS.o,HHE.o,if_pos];subst hq1;subst B3;subst hq3
      simpa using h)
     have oP:=aa (show (q1&&(q2 || q3))=false→ke (k+1) (tabs.drop (k+1)) bi fi=r from fun h=>by
      rw[← JX.o,fS.o,if_neg];rw[HHE.o];intro h2;subst hq1;subst B3;subst hq3;have h3:(decide (0<A)&&(decide (bi<0) || decide (A<fi)))=true:=by simpa using h2
      rw[h3] at h;cases h)
     cases q1 <;> cases q2 <;> cases q3
     all_goals
      first
      |(have abG:=aa (MO.o rfl)
        go_wp2_with fail;go_roundw
        case rel=>exact ⟨k+1,k,A,by omega,by go_num,rfl,rfl,abG.o,dG.o⟩
        case measure=>simp[intOf];omega)
      |(have abG:=aa (oP.o rfl)
        go_wp2_with fail;go_roundw
        case rel=>exact ⟨k+1,bi,fi,by omega,by go_num,rfl,rfl,abG.o,dG.o⟩
        case measure=>simp[intOf];omega)
    case pos=>
     have FI:(j:Int)<(sn:Int):=(by omega);have R7:(0:Int)≤(j:Int):=by omega
     obtain ⟨⟨x,y,z,d⟩,hs⟩:∃s,t[j]?=some s:=⟨_,List.getElem?_eq_getElem (by rw[sG.o];exact jh)⟩
     obtain ⟨gg,oo,rfl,y2⟩:=HA.o j _ hs;obtain ⟨r0,r1,r2,r3⟩:=y2.keep (af dG);simp only at r0 r1 r2 r3;have HNH:=aa (L6 hs);have XZ:=aa (HWY.o (j+1));clear hs y2;obtain ⟨W3,hW3⟩:=aG (wr.alloc (.cells #[.int .i64 x,.int .i64 y,.int .i64 z,.bool d] 52));have Xs:=aa (show aJ W3 wr.heap.size [.int .i64 x,.int .i64 y,.int .i64 z,.bool d] by rw[← hW3];exact aJ.new wr _ _);have gz:=aa (ak dG (show Bw wr W3 by rw[← hW3];exact aq));have HW3:=aa hW3;clear hW3;go_upto_region 11 with fail;rw[HW3.o];clear r0 r1 r2 r3;obtain ⟨r0,r1,r2,r3⟩:=Xs.four;by_cases hz:z=0
     ·subst hz
      have EC:=aa (show fx (t.take (j+1))=A by rw[HNH.o,if_pos rfl,HAA.o,Int.add_zero]);go_wp2_with fail;go_roundw
      case rel=>exact ⟨j+1,by omega,by go_num,by rw[EC.o],gz.o⟩
      case measure=>simp[intOf];omega
     ·have hzd:(z != 0)=true:=by simpa using hz
      have EC:=aa (show fx (t.take (j+1))=A+y by rw[HNH.o,if_neg hz,HAA.o]);have HS:=aa (show wrap64 (A+y)=A+y from dK (by have:=XZ.o;rw[EC.o] at this;omega) (by have:=XZ.o;rw[EC.o] at this;omega));clear hz;go_wp2_with fail;go_roundw
      case rel=>exact ⟨j+1,by omega,by go_num,by rw[EC.o];exact congrArg (Value.int .i64) HS.o,gz.o⟩
      case measure=>simp[intOf];omega
end Go.Proofs.YtbigkioechkngaaGreat
