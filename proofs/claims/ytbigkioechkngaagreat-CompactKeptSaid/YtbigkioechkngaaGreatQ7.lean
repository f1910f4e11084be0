/- The proof, part 8. -/
import Derived.Test.YtbigkioechkngaaGreatQ6
set_option maxRecDepth 100000
set_option maxHeartbeats 8000000
namespace Go.Proofs.YtbigkioechkngaaGreat
open Go.RowKit
theorem Am:∀(l:List aj) (e:Int),hP e l=true→∀u∈l,fG u=true∧e≤u.1
 |[],_,_,_,hu=>by simp at hu
 |x::l,e,h,u,hu=>by
  unfold hP at h;simp only[Bool.and_eq_true,decide_eq_true_eq] at h;obtain ⟨⟨h1,h2⟩,h3⟩:=h;rcases List.mem_cons.1 hu with rfl|hu
  ·exact ⟨h1,h2⟩
  ·obtain ⟨h4,h5⟩:=Am l _ h3 u hu
   have:=useOk_nums h1;exact ⟨h4,by omega⟩
where
 useOk_nums {u:aj} (h:fG u=true):1≤u.2.1∧u.2.1≤8∧0≤u.1∧u.1+u.2.1≤16∧0≤u.2.2.1∧u.2.2.1≤1000000∧(u.2.2.1=0→u.2.2.2=true):=by unfold fG at h;exact of_decide_eq_true h
theorem bW {u:aj}:fG u=true↔1≤u.2.1∧u.2.1≤8∧0≤u.1∧u.1+u.2.1≤16∧0≤u.2.2.1∧u.2.2.1≤1000000∧(u.2.2.1=0→u.2.2.2=true):=by unfold fG;exact decide_eq_true_iff
theorem gV {l:List aj} (h:dD l=true) {u:aj} (hu:u∈l):fG u=true:=(Am l 0 h u hu).1
theorem G5:∀(l:List aj) (e:Int),hP e l=true→e≤16→(l.length:Int)+e≤16
 |[],_,_,he=>by simpa using he
 |x::l,e,h,_=>by unfold hP at h;simp only[Bool.and_eq_true,decide_eq_true_eq] at h;obtain ⟨⟨h1,h2⟩,h3⟩:=h;have hu:=bW.1 h1;have:=G5 l _ h3 hu.2.2.2.1;simp only[List.length_cons];omega
theorem fY {l:List aj} (h:dD l=true):l.length≤16:=by have:=G5 l 0 h (by omega);omega
def mF (a:Int):List aj→Int
 |[]=>0
 |u::l=>if u.1=a then u.2.2.1 else mF a l
def jX (s:Int) (u:aj):Bool:=decide (u.1≤s∧s<u.1+u.2.1)
def fP (l:List aj):List Bool:=(List.range 16).map (fun s=>l.any (jX (s:Nat)))
def ko (l:List aj):List Bool:=if dD l=true then fP l else []
theorem kA (l:List aj):(fP l).length=16:=by unfold fP;simp
theorem Kw {l:List aj} {k:Nat} (hk:k<16):(fP l).take (k+1)=(fP l).take k++[l.any (jX (k:Nat))]:=by
 rw[List.take_add_one];have:(fP l)[k]?=some (l.any (jX (k:Nat))):=by unfold fP;rw[List.getElem?_map,List.getElem?_range hk];rfl
 rw[this];rfl
theorem RY {l:List aj} {k:Nat} {u:aj} {s:Int} (h:l[k]?=some u):(l.take (k+1)).any (jX s)=((l.take k).any (jX s) || jX s u):=by rw[List.take_add_one,h,Option.toList_some,List.any_append];simp
def adS (w:World) (l:List aj) (v i:Value) (wr:World):Prop:=∃(k g c:Nat),k≤16∧i=.int .i64 k∧v=.slice (some ⟨g,0,none⟩) k c∧wr.ownsRow w.heap.size 4 1 (.slice (some ⟨g,0,none⟩) k c) k (bS ((fP l).take k))∧Bw w wr
theorem Ky (l:List aj) (v1:Value) (w:World) (h1:dB w v1 l):Calls Tryz.prog 57 #[v1] w fun e w'=>∃v,e=.returned v∧w'.ownsRow w.heap.size 4 1 v (ko l).length (bS (ko l))∧Bw w w':=by
 have dS:=aa (mD l v1 w h1);obtain ⟨p,cp,rfl,a1,a2,ha⟩:=h1;have HA:=aa ha;obtain ⟨N,hN⟩:=aG l.length;rw[hN] at a1 dS;rw[hN];have hlc:=fK (n:=N) a2;have HN:=aa hN;clear ha hN a1 a2;obtain ⟨m,hm⟩:=aG (dD l);have HM:=aa hm;rw[hm] at dS;clear hm;go_enter Tryz.func57,Tryz.ntmps57;cases m with
 |false=>have HE:=aa (show ko l=[] by unfold ko;rw[if_neg (by rw[HM.o];simp)]);go_wp2_with (go_at_call 102;(with_reducible refine dS.o.mono ?_);rintro e w5 ⟨rfl,aR⟩;have bA:=aa aR;clear aR);go_ret;exact ⟨_,rfl,by rw[HE.o];exact ⟨rfl,.inl ⟨rfl,rfl⟩⟩,bA⟩
 |true=>
  have HE:=aa (show ko l=fP l by unfold ko;rw[if_pos HM.o]);go_upto_region 3 with (go_at_call 102;(with_reducible refine dS.o.mono ?_);rintro e w5 ⟨rfl,aR⟩;have bA:=aa aR;clear aR);have HOW:=aa (World.ownsRow_made (e:=4) (size:=1) w5 #[] 0 aT (by unfold maxLen;omega) rfl);have cQ:=aa (show Bw w (w5.alloc (.cells #[] 4)) from bA.alloc bA.size _);go_wp2_with fail;go_loopw [3,4] (fun v i wr=>adS w l v i wr) (fun _ i _=>16-(intOf i).toNat)
  case atStart=>exact ⟨0,w5.heap.size,0,dQ,rfl,rfl,by rw[List.take_zero];exact bC bA.size HOW,cQ⟩
  case round=>
   obtain ⟨k,g,c,hk,rfl,rfl,hrow,hb⟩:=hrel;have bY:=aa hrow;have HB:=aa hb;clear hrow hb;by_cases hlt:k<16
   case neg=>
    obtain rfl:k=16:=by omega
    go_wp2_with fail;go_ret;refine ⟨_,rfl,?_,HB⟩;have h:=bY.o;rw[List.take_of_length_le (Nat.le_of_eq (kA l))] at h;rw[HE.o,kA];exact h
   case pos=>
   have fO:(k:Int)<16:=(by omega);obtain ⟨wo,rfl⟩:∃wo,wo=wr:=⟨_,rfl⟩
   go_upto_region 9 with fail;go_loopw [5,6] (fun x i ws=>∃(j:Nat) (b:Bool),j≤N∧i=.int .i64 j∧x=.bool b∧b=(l.take j).any (jX (k:Nat))∧Bw wo ws) (fun _ i _=>N-(intOf i).toNat)
   case atStart=>exact ⟨0,false,dQ,rfl,rfl,by simp,aH⟩
   case round=>
    obtain ⟨j,b,hj,rfl,rfl,yV,UD⟩:=hrel;have vY:=aa yV;have ux:=aa UD;clear yV UD;by_cases Ur:j<N
    case neg=>
     obtain rfl:j=N:=by omega
     have fS:=aa (show bS ((fP l).take k)++[.bool b]=bS ((fP l).take (k+1)) by
      rw[Kw hlt,qM,vY.o,List.take_of_length_le (l:=l) (by rw[HN.o];exact aT)])
     obtain ⟨g2,c2,w7,hrun,cj⟩:=qL wr w.heap.size k (.slice (some ⟨g,0,none⟩) k c) ((fP l).take k) b (aM bY ux) (by omega) (ak HB ux).size;have dM:=aa hrun;have yY:=aa cj;clear hrun cj;go_wp2_with (at_builtin;refine Lib.wpList_append_run _ rfl _ _ _ _ rfl _ _ rfl rfl _ _ dM.o ?_);go_roundw
     case rel=>exact ⟨k+1,g2,c2,by omega,by go_num,rfl,by rw[← fS.o];exact yY.o.row,(ak HB.o ux.o).trans yY.o.below⟩
     case measure=>simp[intOf];omega
    have FI:(j:Int)<(N:Int):=(by omega);obtain ⟨⟨x,y,z,d⟩,hs⟩:∃s,l[j]?=some s:=⟨_,List.getElem?_eq_getElem (by rw[HN.o];omega)⟩
    obtain ⟨gg,o,rfl,x1⟩:=HA.o j _ hs;have hok:=bW.1 (gV HM (List.mem_of_getElem? hs));simp only at hok;obtain ⟨q1,q2,q3,q4,_⟩:=hok;have hw:wrap64 (x+y)=x+y:=dK (by omega) (by omega);obtain ⟨r0,r1,r2,r3⟩:=x1.keep (af (ak HB ux));simp only at r0 r1 r2 r3;have fS:=aa (RY (s:=(k:Nat)) hs);rw[← vY.o] at fS;clear hs x1;cases b with
    |true=>
     have wC:=aa (show true=(l.take (j+1)).any (jX (k:Nat)) by rw[fS.o];rfl);go_wp2_with fail;go_quiet (fail);go_wp2_with fail;go_roundw
     case rel=>exact ⟨j+1,true,by omega,by go_num,rfl,wC.o,ay ux.o _⟩
     case measure=>simp[intOf];omega
    |false=>
     rw[Bool.false_or] at fS;by_cases hx:x≤(k:Int)
     ·have d1:decide (x≤(k:Int))=true:=by simpa using hx
      have wC:=aa (show decide ((k:Int)<x+y)=(l.take (j+1)).any (jX (k:Nat)) by
       rw[fS.o];unfold jX;simp[hx])
      go_wp2_with fail;go_quiet (fail);go_wp2_with fail;go_roundw
      case rel=>exact ⟨j+1,decide ((k:Int)<x+y),by omega,by go_num,rfl,wC.o,ay ux.o _⟩
      case measure=>simp[intOf];omega
     ·have d1:decide (x≤(k:Int))=false:=by simpa using hx
      have wC:=aa (show false=(l.take (j+1)).any (jX (k:Nat)) by
       rw[fS.o];unfold jX;simp[hx])
      go_wp2_with fail;go_quiet (fail);go_wp2_with fail;go_roundw
      case rel=>exact ⟨j+1,false,by omega,by go_num,rfl,wC.o,ay ux.o _⟩
      case measure=>simp[intOf];omega
def uS (a b:Int) (u:aj):aj:=if u.1=a then (u.1,u.2.1,u.2.2.1+b,u.2.2.2) else u
def sS (u:aj):Bool:=decide (0<u.2.2.1) || u.2.2.2
def pN (a b:Int) (l:List aj):List aj:=(l.map (uS a b)).filter sS
def jI (l:List aj) (a b:Int):List aj×Bool:=if dD l=true∧¬mF a l=0∧mF a l+b≤1000000 then (pN a b l,true) else ([],false)
theorem N4 (a b:Int) (l:List aj):(pN a b l).length≤l.length:=by unfold pN;exact Nat.le_trans (List.length_filter_le ..) (by simp)
def Ao (u:aj):aj:=(u.1,u.2.1,u.2.2.1,true)
def aQ (l:List aj):List aj:=(l.filter (fun u=>decide (0<u.2.2.1))).map Ao
theorem EL {l:List aj} {k:Nat} {u:aj} (h:l[k]?=some u):aQ (l.take (k+1))=aQ (l.take k)++(if 0<u.2.2.1 then [Ao u] else []):=by unfold aQ;rw[List.take_add_one,h,Option.toList_some,List.filter_append,List.map_append];congr 1;by_cases h0:0<u.2.2.1 <;> simp[h0]
theorem G6 (l:List aj):(aQ l).length≤l.length:=by unfold aQ;rw[List.length_map];exact List.length_filter_le ..
def iK (a n:Int):List aj→List aj
 |[]=>[(a,n,1,false)]
 |u::l=>if a<u.1 then (a,n,1,false)::u::l else u::iK a n l
def gB (l:List aj) (n:Int):List aj×Int×Bool:=
 if dD l=true∧1≤n∧n≤8 then (if fH (fP l) n<0 then ([],0,false) else (iK (fH (fP l) n) n l,fH (fP l) n,true)) else ([],0,false)
theorem N5 {l:List aj} {k:Nat} {u:aj} {a n:Int} (h:l[k]?=some u):iK a n (l.drop k)=if a<u.1 then (a,n,1,false)::u::l.drop (k+1) else u::iK a n (l.drop (k+1)):=by rw[List.drop_eq_getElem_cons (List.getElem?_eq_some_iff.1 h).1,(List.getElem?_eq_some_iff.1 h).2];rfl
def adT (w:World) (l:List aj) (a n:Int) (N:Nat) (v lv i:Value) (wr:World):Prop:=∃(k m g c:Nat) (laid:Bool) (T:List aj),k≤N∧i=.int .i64 k∧v=.slice (some ⟨g,0,none⟩) m c∧lv=.bool laid∧T.length=m∧m≤2*k∧wr.ownsRow w.heap.size 52 4 (.slice (some ⟨g,0,none⟩) m c) m (aI T)∧(T++if laid=true then l.drop k else iK a n (l.drop k))=iK a n l∧Bw w wr
theorem Kz (l:List aj) (n:Int) (hn:aP n) (v1:Value) (w:World) (h1:dB w v1 l):Calls Tryz.prog 89 #[v1,.int .i64 n] w fun e w'=>∃v,e=.returned (.tuple #[v,.int .i64 (gB l n).2.1,.bool (gB l n).2.2])∧w'.ownsRow w.heap.size 52 4 v (gB l n).1.length (aI (gB l n).1)∧Bw w w':=by
 have dS:=aa (mD l v1 w h1);have Y6:=aa (fun (W:World) (hb:Bw w W)=>Ky l v1 W (h1.keep (af hb)));obtain ⟨p,cp,rfl,a1,a2,ha⟩:=h1;have HA:=aa ha;obtain ⟨N,hN⟩:=aG l.length;rw[hN] at a1 dS Y6;rw[hN];have hlc:=fK (n:=N) a2;have HN:=aa hN;clear ha hN a1 a2;obtain ⟨m,hm⟩:=aG (dD l);have HM:=aa hm;rw[hm] at dS;clear hm;obtain ⟨r,hr⟩:=aG (gB l n);have HR:=aa hr;rw[hr];unfold gB at HR;clear hr;have HI:=aa hn;unfold aP at hn;go_enter Tryz.func89,Tryz.ntmps89;cases m with
 |false=>have HE:=aa (show r=([],0,false) by rw[← HR.o,if_neg (fun h=>by rw[HM.o] at h;exact absurd h.1 (by simp))]);go_wp2_with (go_at_call 102;(with_reducible refine dS.o.mono ?_);rintro e w5 ⟨rfl,aR⟩;have bA:=aa aR;clear aR);refine au (v:=.tuple #[.slice none 0 0,.int .i64 0,.bool false]) ⟨.slice none 0 0,by rw[HE.o],by rw[HE.o];exact ⟨rfl,.inl ⟨rfl,rfl⟩⟩,bA⟩ ?_;simp[results,Tryz.results89,go_sem]
 |true=>
  by_cases kV:n<1∨8<n
  case pos=>
   have HE:=aa (show r=([],0,false) by rw[← HR.o,if_neg (by omega)]);have hc:n<1∨(¬n<1∧8<n):=by omega
   clear kV;rcases hc with c1|⟨c1,c2⟩
   ·have d1:decide (n<1)=true:=by simpa using c1
    go_wp2_with (go_at_call 102;(with_reducible refine dS.o.mono ?_);rintro e w5 ⟨rfl,aR⟩;have bA:=aa aR;clear aR);refine au (v:=.tuple #[.slice none 0 0,.int .i64 0,.bool false]) ⟨.slice none 0 0,by rw[HE.o],by rw[HE.o];exact ⟨rfl,.inl ⟨rfl,rfl⟩⟩,bA⟩ ?_;simp[results,Tryz.results89,go_sem]
   ·have d1:decide (n<1)=false:=by simpa using c1
    have d2:decide (8<n)=true:=(by simpa using c2);go_wp2_with (go_at_call 102;(with_reducible refine dS.o.mono ?_);rintro e w5 ⟨rfl,aR⟩;have bA:=aa aR;clear aR);refine au (v:=.tuple #[.slice none 0 0,.int .i64 0,.bool false]) ⟨.slice none 0 0,by rw[HE.o],by rw[HE.o];exact ⟨rfl,.inl ⟨rfl,rfl⟩⟩,bA⟩ ?_;simp[results,Tryz.results89,go_sem]
  have c1:¬n<1:=by omega
  have c2:¬8<n:=by omega
  have d1:decide (n<1)=false:=by simpa using c1
  have d2:decide (8<n)=false:=by simpa using c2
  clear kV;have HUT:=aa (show ko l=fP l by unfold ko;rw[if_pos HM.o]);obtain ⟨a,ha⟩:=aG (fH (fP l) n);have js:=aa (show (if a<0 then ([],0,false) else (iK a n l,a,true))=r by
   have h:=HR.o;rw[if_pos ⟨HM,by omega,by omega⟩,ha] at h;exact h)
  have HAF:=aa ha;clear ha;go_upto_region 4 with (first|(go_at_call 102;(with_reducible refine dS.o.mono ?_);rintro e w5 ⟨rfl,aR⟩;have bA:=aa aR;clear aR)|(go_at_call 57;(with_reducible refine (Y6.o _ bA.o).mono ?_);rintro e w6 ⟨vu,rfl,hru,cW⟩;have cQ:=aV bA cW;have KD:=aa (by have h:=NX (ko l) n vu w6 (eI rfl hru) HI.o;rw[HUT.o,HAF.o] at h;exact h);clear cW hru)|(go_at_call 141;(with_reducible refine KD.o.mono ?_);rintro e w7 ⟨rfl,dO⟩;have fg:=aV cQ dO;clear dO));by_cases hneg:a<0
  case pos=>
   have HE:=aa (show r=([],0,false) by rw[← js.o,if_pos hneg]);have d3:decide (a<0)=true:=by simpa using hneg
   go_wp2_with fail;refine au (v:=.tuple #[.slice none 0 0,.int .i64 0,.bool false]) ⟨.slice none 0 0,by rw[HE.o],by rw[HE.o];exact ⟨rfl,.inl ⟨rfl,rfl⟩⟩,fg⟩ ?_;simp[results,Tryz.results89,go_sem]
  have HE:=aa (show r=(iK a n l,a,true) by rw[← js.o,if_neg hneg]);have d3:decide (a<0)=false:=by simpa using hneg
  have yZ:=aa (show N≤16 by rw[← HN.o];exact fY HM);have HOW:=aa (World.ownsRow_made (e:=52) (size:=4) w7 #[] 0 aT (by unfold maxLen;omega) rfl);have gQ:=aa (show Bw w (w7.alloc (.cells #[] 52)) from fg.alloc fg.size _);go_upto_region 9 with fail;clear c1 c2 d1 d2 d3 hneg;go_loopw [8,9,10] (fun v lv i wr=>adT w l a n N v lv i wr) (fun _ _ i _=>N-(intOf i).toNat)
  case atStart=>exact ⟨0,0,w7.heap.size,0,false,[],dQ,rfl,rfl,rfl,rfl,by omega,bC fg.size HOW,by rw[List.drop_zero];rfl,gQ⟩
  case round=>
   obtain ⟨k,m,g,c,laid,T,hk,rfl,rfl,rfl,Uy,jP,hrow,heq,hb⟩:=hrel;have bY:=aa hrow;have HB:=aa hb;have qA:=aa Uy;have xT:=aa heq;have adV:m≤32:=by have:=yZ.o;omega
   clear hrow hb Uy heq;by_cases hlt:k<N
   case neg=>
    obtain rfl:k=N:=by omega
    cases laid with
    |true=>
     have kQ:=aa (show T=iK a n l by
      have h:=xT.o;rw[if_pos rfl,List.drop_of_length_le (by rw[HN.o];exact aT),List.append_nil] at h;exact h)
     go_wp2_with fail;refine au (v:=.tuple #[.slice (some ⟨g,0,none⟩) m c,.int .i64 a,.bool true]) ⟨.slice (some ⟨g,0,none⟩) m c,by rw[HE.o],by rw[HE.o];simp only;rw[← kQ.o,qA.o];exact bY,HB⟩ ?_;simp[results,Tryz.results89,go_sem]
    |false=>
     have kQ:=aa (show T++[(a,n,1,false)]=iK a n l by
      have h:=xT.o;rw[if_neg (by simp),List.drop_of_length_le (by rw[HN.o];exact aT)] at h;exact h)
     obtain ⟨g2,c2,w9,hrun,hrow2,kp,_⟩:=ju wr w.heap.size m _ T (a,n,1,false) bY (by omega) HB.size;simp only at hrun;have dM:=aa hrun;have nB:=aa hrow2;have km:=aa (HB.trans kp);clear hrun hrow2 kp;go_wp2_with (at_builtin;refine Lib.wpList_append_run _ rfl _ _ _ _ rfl _ _ rfl rfl _ _ dM.o ?_);refine au (v:=.tuple #[.slice (some ⟨g2,0,none⟩) (m+1) c2,.int .i64 a,.bool true]) ⟨.slice (some ⟨g2,0,none⟩) (m+1) c2,by rw[HE.o],by rw[HE.o];simp only;rw[← kQ.o,List.length_append,qA.o];exact nB,km⟩ ?_;simp[results,Tryz.results89,go_sem]
   case pos=>
   have fO:(k:Int)<(N:Int):=(by omega);obtain ⟨⟨x,y,z,d⟩,hs⟩:∃s,l[k]?=some s:=⟨_,List.getElem?_eq_getElem (by rw[HN.o];omega)⟩
   obtain ⟨gg,o,rfl,x1⟩:=HA.o k _ hs;simp only at x1;have aU:=aa x1;obtain ⟨r0,r1,r2,r3⟩:=x1.keep (af HB);have fS:=aa (N5 (a:=a) (n:=n) hs);have Zi:=aa (show l.drop k=(x,y,z,d)::l.drop (k+1) by rw[List.drop_eq_getElem_cons (List.getElem?_eq_some_iff.1 hs).1,(List.getElem?_eq_some_iff.1 hs).2]);clear hs x1;by_cases htwo:laid=false∧a<x
   case pos=>
    obtain ⟨rfl,Ux⟩:=htwo;have d4:decide (a<x)=true:=by simpa using Ux
    obtain ⟨g2,c2,w9,hrun,hrow2,kp,_⟩:=ju wr w.heap.size m _ T (a,n,1,false) bY (by omega) HB.size;obtain ⟨g3,c3,G7,RZ,hrow3,R2,_⟩:=ju w9 w.heap.size (m+1) _ (T++[(a,n,1,false)]) (x,y,z,d) hrow2 (by omega) (HB.trans kp).size;simp only at hrun RZ;have dM:=aa hrun;have adW:=aa RZ;have R3:=aa hrow3;have km:=aa (HB.trans kp);have tN:=aa ((HB.trans kp).trans R2);have R4:=aa (show ((T++[(a,n,1,false)])++[(x,y,z,d)])++l.drop (k+1)=iK a n l by
     have h:=xT.o;rw[if_neg (by simp),fS.o,if_pos Ux] at h;rw[← h];simp)
    have akk:=aa (show ((T++[(a,n,1,false)])++[(x,y,z,d)]).length=m+1+1 by rw[List.length_append,List.length_append,qA.o];rfl);obtain ⟨s0,s1,s2,s3⟩:=aU.keep (af km);clear hrun RZ hrow2 hrow3 kp R2;go_wp2_with (at_builtin;first|refine Lib.wpList_append_run _ rfl _ _ _ _ rfl _ _ rfl rfl _ _ dM.o ?_|refine Lib.wpList_append_run _ rfl _ _ _ _ rfl _ _ rfl rfl _ _ adW.o ?_);go_roundw
    case rel=>exact ⟨k+1,m+1+1,g3,c3,true,_,by omega,by go_num,rfl,rfl,akk.o,by omega,R3.o,by rw[if_pos rfl];exact R4.o,tN.o⟩
    case measure=>simp[intOf];omega
   obtain ⟨g2,c2,w9,hrun,hrow2,kp,_⟩:=ju wr w.heap.size m _ T (x,y,z,d) bY (by omega) HB.size;simp only at hrun;have dM:=aa hrun;have nB:=aa hrow2;have km:=aa (HB.trans kp);have adX:=aa (show (T++[(x,y,z,d)]).length=m+1 by rw[List.length_append,qA.o];rfl);clear hrun hrow2 kp;cases laid with
   |true=>
    have R4:=aa (show (T++[(x,y,z,d)])++l.drop (k+1)=iK a n l by
     have h:=xT.o;rw[if_pos rfl,Zi.o] at h;rw[← h];simp)
    go_wp2_with (at_builtin;refine Lib.wpList_append_run _ rfl _ _ _ _ rfl _ _ rfl rfl _ _ dM.o ?_);go_roundw
    case rel=>exact ⟨k+1,m+1,g2,c2,true,_,by omega,by go_num,rfl,rfl,adX.o,by omega,nB.o,by rw[if_pos rfl];exact R4.o,km.o⟩
    case measure=>simp[intOf];omega
   |false=>
    have Ux:¬a<x:=fun h=>htwo ⟨rfl,h⟩;have d4:decide (a<x)=false:=by simpa using Ux
    have R4:=aa (show (T++[(x,y,z,d)])++iK a n (l.drop (k+1))=iK a n l by
     have h:=xT.o;rw[if_neg (by simp),fS.o,if_neg Ux] at h;rw[← h];simp)
    clear htwo;go_wp2_with (at_builtin;refine Lib.wpList_append_run _ rfl _ _ _ _ rfl _ _ rfl rfl _ _ dM.o ?_);go_roundw
    case rel=>exact ⟨k+1,m+1,g2,c2,false,_,by omega,by go_num,rfl,rfl,adX.o,by omega,nB.o,by rw[if_neg (by simp)];exact R4.o,km.o⟩
    case measure=>simp[intOf];omega
end Go.Proofs.YtbigkioechkngaaGreat
