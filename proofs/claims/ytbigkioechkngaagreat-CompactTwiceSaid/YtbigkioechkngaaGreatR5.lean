/- The proof, part 6. -/
import Derived.Test.YtbigkioechkngaaGreatR4
set_option maxRecDepth 100000
set_option maxHeartbeats 8000000
namespace Go.Proofs.YtbigkioechkngaaGreat
open Go.RowKit Tryz
variable {l:List aj}{k:Nat}{u:aj}
theorem zV:∀(l:List aj) (e:Int),iq e l=true→∀u∈l,fD u=true∧e≤u.1
 |[],_,_,_,hu=>by simp at hu
 |x::l,e,h,u,hu=>by
  unfold iq at h;simp only[Bool.and_eq_true,decide_eq_true_eq] at h;obtain ⟨⟨h1,h2⟩,h3⟩:=h;rcases List.mem_cons.1 hu with rfl|hu
  ·exact ⟨h1,h2⟩
  ·obtain ⟨h4,h5⟩:=zV l _ h3 u hu
   have:=useOk_nums h1;exact ⟨h4,by omega⟩
where
 useOk_nums {u:aj} (h:fD u=true):1≤u.2.1∧u.2.1≤8∧0≤u.1∧u.1+u.2.1≤16∧0≤u.2.2.1∧u.2.2.1≤1000000∧(u.2.2.1=0→u.2.2.2=true):=by unfold fD at h;exact of_decide_eq_true h
theorem cj:fD u=true↔1≤u.2.1∧u.2.1≤8∧0≤u.1∧u.1+u.2.1≤16∧0≤u.2.2.1∧u.2.2.1≤1000000∧(u.2.2.1=0→u.2.2.2=true):=by unfold fD;exact decide_eq_true_iff
theorem iw (h:dE l=true) (hu:u∈l):fD u=true:=(zV l 0 h u hu).1
theorem GF:∀(l:List aj) (e:Int),iq e l=true→e≤16→(l.length:Int)+e≤16
 |[],_,_,he=>by simpa using he
 |x::l,e,h,_=>by unfold iq at h;simp only[Bool.and_eq_true,decide_eq_true_eq] at h;obtain ⟨⟨h1,h2⟩,h3⟩:=h;have hu:=cj.1 h1;have:=GF l _ h3 hu.2.2.2.1;simp only[List.length_cons];omega
theorem gP (h:dE l=true):l.length≤16:=by have:=GF l 0 h (by omega);omega
def mh (a:Int):List aj→Int
 |[]=>0
 |u::l=>if u.1=a then u.2.2.1 else mh a l
def kg (s:Int) (u:aj):Bool:=decide (u.1≤s∧s<u.1+u.2.1)
def gD (l:List aj):List Bool:=(List.range 16).map (fun s=>l.any (kg (s:Nat)))
def km (l:List aj):List Bool:=if dE l=true then gD l else []
theorem om (l:List aj):(gD l).length=16:=by unfold gD;simp
theorem J5 (hk:k<16):(gD l).take (k+1)=(gD l).take k++[l.any (kg (k:Nat))]:=by
 rw[List.take_add_one];have:(gD l)[k]?=some (l.any (kg (k:Nat))):=by unfold gD;rw[List.getElem?_map,List.getElem?_range hk];rfl
 rw[this];rfl
theorem Rs {s:Int} (h:l[k]?=some u):(l.take (k+1)).any (kg s)=((l.take k).any (kg s) || kg s u):=by rw[List.take_add_one,h,Option.toList_some,List.any_append];simp
def ac8 (w:World) (l:List aj) (v i:Value) (wr:World):Prop:=∃(k g c:Nat),k≤16∧i=.int .i64 k∧v=.slice (some ⟨g,0,none⟩) k c∧wr.ownsRow w.heap.size 4 1 (.slice (some ⟨g,0,none⟩) k c) k (bQ ((gD l).take k))∧Bw w wr
theorem J6 (l:List aj) (v1:Value) (w:World) (h1:dA w v1 l):Calls prog 57 #[v1] w fun e w'=>∃v,e=.returned v∧w'.ownsRow w.heap.size 4 1 v (km l).length (bQ (km l))∧Bw w w':=by
 have eJ:=aa (l9 l v1 w h1);obtain ⟨p,cp,rfl,a1,a2,ha⟩:=h1;have HA:=aa ha;obtain ⟨N,hN⟩:=aG l.length;rw[hN] at a1 eJ;rw[hN];have hlc:=fG (n:=N) a2;have HN:=aa hN;clear ha hN a1 a2;obtain ⟨m,hm⟩:=aG (dE l);have HM:=aa hm;rw[hm] at eJ;clear hm;go_enter func57,ntmps57;cases m with
 |false=>have HE:=aa (show km l=[] by unfold km;rw[if_neg (by rw[HM.o];simp)]);go_wp2_with (go_at_call 102;(refine eJ.o.mono ?_);rintro e w5 ⟨rfl,aR⟩;have bp:=aa aR;clear aR);go_ret;exact ⟨_,rfl,by rw[HE.o];exact ⟨rfl,.inl ⟨rfl,rfl⟩⟩,bp⟩
 |true=>
  have HE:=aa (show km l=gD l by unfold km;rw[if_pos HM.o]);go_upto_region 3 with (go_at_call 102;(refine eJ.o.mono ?_);rintro e w5 ⟨rfl,aR⟩;have bp:=aa aR;clear aR);have HOW:=aa (World.ownsRow_made (e:=4) (size:=1) w5 #[] 0 aT (by unfold maxLen;omega) rfl);have cU:=aa (show Bw w (w5.alloc (.cells #[] 4)) from bp.alloc bp.size _);go_wp2_with fail;go_loopw [3,4] (fun v i wr=>ac8 w l v i wr) (fun _ i _=>16-(intOf i).toNat)
  case atStart=>exact ⟨0,w5.heap.size,0,dO,rfl,rfl,by rw[List.take_zero];exact bz bp.size HOW,cU⟩
  case round=>
   obtain ⟨k,g,c,hk,rfl,rfl,hrow,hb⟩:=hrel;have bU:=aa hrow;have HB:=aa hb;clear hrow hb;by_cases hlt:k<16
   case neg=>
    obtain rfl:k=16:=by omega
    go_wp2_with fail;go_ret;refine ⟨_,rfl,?_,HB⟩;have h:=bU.o;rw[List.take_of_length_le (Nat.le_of_eq (om l))] at h;rw[HE.o,om];exact h
   case pos=>
   have fN:(k:Int)<16:=(by omega);obtain ⟨wo,rfl⟩:∃wo,wo=wr:=⟨_,rfl⟩
   go_upto_region 9 with fail;go_loopw [5,6] (fun x i ws=>∃(j:Nat) (b:Bool),j≤N∧i=.int .i64 j∧x=.bool b∧b=(l.take j).any (kg (k:Nat))∧Bw wo ws) (fun _ i _=>N-(intOf i).toNat)
   case atStart=>exact ⟨0,false,dO,rfl,rfl,by simp,aH⟩
   case round=>
    obtain ⟨j,b,hj,rfl,rfl,yA,YC⟩:=hrel;have vF:=aa yA;have yC:=aa YC;clear yA YC;by_cases UD:j<N
    case neg=>
     obtain rfl:j=N:=by omega
     have fX:=aa (show bQ ((gD l).take k)++[.bool b]=bQ ((gD l).take (k+1)) by
      rw[J5 hlt,qA,vF.o,List.take_of_length_le (l:=l) (by rw[HN.o];exact aT)])
     obtain ⟨g2,c2,w7,hrun,bY⟩:=qz wr w.heap.size k (.slice (some ⟨g,0,none⟩) k c) ((gD l).take k) b (aL bU yC) (by omega) (ak HB yC).size;have dJ:=aa hrun;have yD:=aa bY;clear hrun bY;go_wp2_with (at_builtin;refine Lib.wpList_append_run _ rfl _ _ _ _ rfl _ _ rfl rfl _ _ dJ.o ?_);go_roundw
     case rel=>exact ⟨k+1,g2,c2,by omega,by go_num,rfl,by rw[← fX.o];exact yD.o.row,(ak HB.o yC.o).trans yD.o.below⟩
     case measure=>simp[intOf];omega
    have Gg:(j:Int)<(N:Int):=(by omega);obtain ⟨⟨x,y,z,d⟩,hs⟩:∃s,l[j]?=some s:=⟨_,List.getElem?_eq_getElem (by rw[HN.o];omega)⟩
    obtain ⟨gg,o,rfl,x1⟩:=HA.o j _ hs;have hok:=cj.1 (iw HM (List.mem_of_getElem? hs));simp only at hok;obtain ⟨q1,q2,q3,q4,_⟩:=hok;have hw:wrap64 (x+y)=x+y:=dN (by omega) (by omega);obtain ⟨r0,r1,r2,r3⟩:=x1.keep (af (ak HB yC));simp only at r0 r1 r2 r3;have fX:=aa (Rs (s:=(k:Nat)) hs);rw[← vF.o] at fX;clear hs x1;cases b with
    |true=>
     have yE:=aa (show true=(l.take (j+1)).any (kg (k:Nat)) by rw[fX.o];rfl);go_wp2_with fail;go_quiet (fail);go_wp2_with fail;go_roundw
     case rel=>exact ⟨j+1,true,by omega,by go_num,rfl,yE.o,az yC.o _⟩
     case measure=>simp[intOf];omega
    |false=>
     rw[Bool.false_or] at fX;by_cases hx:x≤(k:Int)
     ·have d1:decide (x≤(k:Int))=true:=by simpa using hx
      have yE:=aa (show decide ((k:Int)<x+y)=(l.take (j+1)).any (kg (k:Nat)) by
       rw[fX.o];unfold kg;simp[hx])
      go_wp2_with fail;go_quiet (fail);go_wp2_with fail;go_roundw
      case rel=>exact ⟨j+1,decide ((k:Int)<x+y),by omega,by go_num,rfl,yE.o,az yC.o _⟩
      case measure=>simp[intOf];omega
     ·have d1:decide (x≤(k:Int))=false:=by simpa using hx
      have yE:=aa (show false=(l.take (j+1)).any (kg (k:Nat)) by
       rw[fX.o];unfold kg;simp[hx])
      go_wp2_with fail;go_quiet (fail);go_wp2_with fail;go_roundw
      case rel=>exact ⟨j+1,false,by omega,by go_num,rfl,yE.o,az yC.o _⟩
      case measure=>simp[intOf];omega
def uD (a b:Int) (u:aj):aj:=if u.1=a then (u.1,u.2.1,u.2.2.1+b,u.2.2.2) else u
def sH (u:aj):Bool:=decide (0<u.2.2.1) || u.2.2.2
def pE (a b:Int) (l:List aj):List aj:=(l.map (uD a b)).filter sH
def jD (l:List aj) (a b:Int):List aj×Bool:=if dE l=true∧¬mh a l=0∧mh a l+b≤1000000 then (pE a b l,true) else ([],false)
theorem Nz (a b:Int) (l:List aj):(pE a b l).length≤l.length:=by unfold pE;exact Nat.le_trans (List.length_filter_le ..) (by simp)
def zW (u:aj):aj:=(u.1,u.2.1,u.2.2.1,true)
def aP (l:List aj):List aj:=(l.filter (fun u=>decide (0<u.2.2.1))).map zW
theorem Ej (h:l[k]?=some u):aP (l.take (k+1))=aP (l.take k)++(if 0<u.2.2.1 then [zW u] else []):=by unfold aP;rw[List.take_add_one,h,Option.toList_some,List.filter_append,List.map_append];congr 1;by_cases h0:0<u.2.2.1 <;> simp[h0]
theorem GG (l:List aj):(aP l).length≤l.length:=by unfold aP;rw[List.length_map];exact List.length_filter_le ..
def jn (a n:Int):List aj→List aj
 |[]=>[(a,n,1,false)]
 |u::l=>if a<u.1 then (a,n,1,false)::u::l else u::jn a n l
def gQ (l:List aj) (n:Int):List aj×Int×Bool:=
 if dE l=true∧1≤n∧n≤8 then (if gy (gD l) n<0 then ([],0,false) else (jn (gy (gD l) n) n l,gy (gD l) n,true)) else ([],0,false)
theorem NA {a n:Int} (h:l[k]?=some u):jn a n (l.drop k)=if a<u.1 then (a,n,1,false)::u::l.drop (k+1) else u::jn a n (l.drop (k+1)):=by rw[List.drop_eq_getElem_cons (List.getElem?_eq_some_iff.1 h).1,(List.getElem?_eq_some_iff.1 h).2];rfl
def ac9 (w:World) (l:List aj) (a n:Int) (N:Nat) (v lv i:Value) (wr:World):Prop:=∃(k m g c:Nat) (laid:Bool) (T:List aj),k≤N∧i=.int .i64 k∧v=.slice (some ⟨g,0,none⟩) m c∧lv=.bool laid∧T.length=m∧m≤2*k∧wr.ownsRow w.heap.size 52 4 (.slice (some ⟨g,0,none⟩) m c) m (aI T)∧(T++if laid=true then l.drop k else jn a n (l.drop k))=jn a n l∧Bw w wr
theorem J7 (l:List aj) (n:Int) (hn:aQ n) (v1:Value) (w:World) (h1:dA w v1 l):Calls prog 89 #[v1,.int .i64 n] w fun e w'=>∃v,e=.returned (.tuple #[v,.int .i64 (gQ l n).2.1,.bool (gQ l n).2.2])∧w'.ownsRow w.heap.size 52 4 v (gQ l n).1.length (aI (gQ l n).1)∧Bw w w':=by
 have eJ:=aa (l9 l v1 w h1);have Yq:=aa (fun W (hb:Bw w W)=>J6 l v1 W (h1.keep (af hb)));obtain ⟨p,cp,rfl,a1,a2,ha⟩:=h1;have HA:=aa ha;obtain ⟨N,hN⟩:=aG l.length;rw[hN] at a1 eJ Yq;rw[hN];have hlc:=fG (n:=N) a2;have HN:=aa hN;clear ha hN a1 a2;obtain ⟨m,hm⟩:=aG (dE l);have HM:=aa hm;rw[hm] at eJ;clear hm;obtain ⟨r,hr⟩:=aG (gQ l n);have HR:=aa hr;rw[hr];unfold gQ at HR;clear hr;have HI:=aa hn;unfold aQ at hn;go_enter func89,ntmps89;cases m with
 |false=>have HE:=aa (show r=([],0,false) by rw[← HR.o,if_neg (fun h=>by rw[HM.o] at h;exact absurd h.1 (by simp))]);go_wp2_with (go_at_call 102;(refine eJ.o.mono ?_);rintro e w5 ⟨rfl,aR⟩;have bp:=aa aR;clear aR);refine au (v:=.tuple #[.slice none 0 0,.int .i64 0,.bool false]) ⟨.slice none 0 0,by rw[HE.o],by rw[HE.o];exact ⟨rfl,.inl ⟨rfl,rfl⟩⟩,bp⟩ ?_;simp[results,results89,go_sem]
 |true=>
  by_cases kN:n<1∨8<n
  case pos=>
   have HE:=aa (show r=([],0,false) by rw[← HR.o,if_neg (by omega)]);have hc:n<1∨(¬n<1∧8<n):=by omega
   clear kN;rcases hc with c1|⟨c1,c2⟩
   ·have d1:decide (n<1)=true:=by simpa using c1
    go_wp2_with (go_at_call 102;(refine eJ.o.mono ?_);rintro e w5 ⟨rfl,aR⟩;have bp:=aa aR;clear aR);refine au (v:=.tuple #[.slice none 0 0,.int .i64 0,.bool false]) ⟨.slice none 0 0,by rw[HE.o],by rw[HE.o];exact ⟨rfl,.inl ⟨rfl,rfl⟩⟩,bp⟩ ?_;simp[results,results89,go_sem]
   ·have d1:decide (n<1)=false:=by simpa using c1
    have d2:decide (8<n)=true:=(by simpa using c2);go_wp2_with (go_at_call 102;(refine eJ.o.mono ?_);rintro e w5 ⟨rfl,aR⟩;have bp:=aa aR;clear aR);refine au (v:=.tuple #[.slice none 0 0,.int .i64 0,.bool false]) ⟨.slice none 0 0,by rw[HE.o],by rw[HE.o];exact ⟨rfl,.inl ⟨rfl,rfl⟩⟩,bp⟩ ?_;simp[results,results89,go_sem]
  have c1:¬n<1:=by omega
  have c2:¬8<n:=by omega
  have d1:decide (n<1)=false:=by simpa using c1
  have d2:decide (8<n)=false:=by simpa using c2
  clear kN;have HUT:=aa (show km l=gD l by unfold km;rw[if_pos HM.o]);obtain ⟨a,ha⟩:=aG (gy (gD l) n);have jO:=aa (show (if a<0 then ([],0,false) else (jn a n l,a,true))=r by
   have h:=HR.o;rw[if_pos ⟨HM,by omega,by omega⟩,ha] at h;exact h)
  have HAF:=aa ha;clear ha;go_upto_region 4 with (first|(go_at_call 102;(with_reducible refine eJ.o.mono ?_);rintro e w5 ⟨rfl,aR⟩;have bp:=aa aR;clear aR)|(go_at_call 57;(with_reducible refine (Yq.o _ bp.o).mono ?_);rintro e w6 ⟨vu,rfl,hru,cV⟩;have cU:=bh bp cV;have J8:=aa (by have h:=Nu (km l) n vu w6 (eD rfl hru) HI.o;rw[HUT.o,HAF.o] at h;exact h);clear cV hru)|(go_at_call 141;(with_reducible refine J8.o.mono ?_);rintro e w7 ⟨rfl,dL⟩;have fw:=bh cU dL;clear dL));by_cases hneg:a<0
  case pos=>
   have HE:=aa (show r=([],0,false) by rw[← jO.o,if_pos hneg]);have d3:decide (a<0)=true:=by simpa using hneg
   go_wp2_with fail;refine au (v:=.tuple #[.slice none 0 0,.int .i64 0,.bool false]) ⟨.slice none 0 0,by rw[HE.o],by rw[HE.o];exact ⟨rfl,.inl ⟨rfl,rfl⟩⟩,fw⟩ ?_;simp[results,results89,go_sem]
  have HE:=aa (show r=(jn a n l,a,true) by rw[← jO.o,if_neg hneg]);have d3:decide (a<0)=false:=by simpa using hneg
  have yF:=aa (show N≤16 by rw[← HN.o];exact gP HM);have HOW:=aa (World.ownsRow_made (e:=52) (size:=4) w7 #[] 0 aT (by unfold maxLen;omega) rfl);have gI:=aa (show Bw w (w7.alloc (.cells #[] 52)) from fw.alloc fw.size _);go_upto_region 9 with fail;clear c1 c2 d1 d2 d3 hneg;go_loopw [8,9,10] (fun v lv i wr=>ac9 w l a n N v lv i wr) (fun _ _ i _=>N-(intOf i).toNat)
  case atStart=>exact ⟨0,0,w7.heap.size,0,false,[],dO,rfl,rfl,rfl,rfl,by omega,bz fw.size HOW,by rw[List.drop_zero];rfl,gI⟩
  case round=>
   obtain ⟨k,m,g,c,laid,T,hk,rfl,rfl,rfl,TZ,jJ,hrow,heq,hb⟩:=hrel;have bU:=aa hrow;have HB:=aa hb;have pY:=aa TZ;have xA:=aa heq;have adb:m≤32:=by have:=yF.o;omega
   clear hrow hb TZ heq;by_cases hlt:k<N
   case neg=>
    obtain rfl:k=N:=by omega
    cases laid with
    |true=>
     have kI:=aa (show T=jn a n l by
      have h:=xA.o;rw[if_pos rfl,List.drop_of_length_le (by rw[HN.o];exact aT),List.append_nil] at h;exact h)
     go_wp2_with fail;refine au (v:=.tuple #[.slice (some ⟨g,0,none⟩) m c,.int .i64 a,.bool true]) ⟨.slice (some ⟨g,0,none⟩) m c,by rw[HE.o],by rw[HE.o];simp only;rw[← kI.o,pY.o];exact bU,HB⟩ ?_;simp[results,results89,go_sem]
    |false=>
     have kI:=aa (show T++[(a,n,1,false)]=jn a n l by
      have h:=xA.o;rw[if_neg (by simp),List.drop_of_length_le (by rw[HN.o];exact aT)] at h;exact h)
     obtain ⟨g2,c2,w9,hrun,hrow2,kn,_⟩:=jm wr w.heap.size m _ T (a,n,1,false) bU (by omega) HB.size;simp only at hrun;have dJ:=aa hrun;have mX:=aa hrow2;have ke:=aa (HB.trans kn);clear hrun hrow2 kn;go_wp2_with (at_builtin;refine Lib.wpList_append_run _ rfl _ _ _ _ rfl _ _ rfl rfl _ _ dJ.o ?_);refine au (v:=.tuple #[.slice (some ⟨g2,0,none⟩) (m+1) c2,.int .i64 a,.bool true]) ⟨.slice (some ⟨g2,0,none⟩) (m+1) c2,by rw[HE.o],by rw[HE.o];simp only;rw[← kI.o,List.length_append,pY.o];exact mX,ke⟩ ?_;simp[results,results89,go_sem]
   case pos=>
   have fN:(k:Int)<(N:Int):=(by omega);obtain ⟨⟨x,y,z,d⟩,hs⟩:∃s,l[k]?=some s:=⟨_,List.getElem?_eq_getElem (by rw[HN.o];omega)⟩
   obtain ⟨gg,o,rfl,x1⟩:=HA.o k _ hs;simp only at x1;have aU:=aa x1;obtain ⟨r0,r1,r2,r3⟩:=x1.keep (af HB);have fX:=aa (NA (a:=a) (n:=n) hs);have YD:=aa (show l.drop k=(x,y,z,d)::l.drop (k+1) by rw[List.drop_eq_getElem_cons (List.getElem?_eq_some_iff.1 hs).1,(List.getElem?_eq_some_iff.1 hs).2]);clear hs x1;by_cases htwo:laid=false∧a<x
   case pos=>
    obtain ⟨rfl,TY⟩:=htwo;have d4:decide (a<x)=true:=by simpa using TY
    obtain ⟨g2,c2,w9,hrun,hrow2,kn,_⟩:=jm wr w.heap.size m _ T (a,n,1,false) bU (by omega) HB.size;obtain ⟨g3,c3,GH,Rt,hrow3,Ru,_⟩:=jm w9 w.heap.size (m+1) _ (T++[(a,n,1,false)]) (x,y,z,d) hrow2 (by omega) (HB.trans kn).size;simp only at hrun Rt;have dJ:=aa hrun;have ade:=aa Rt;have Rv:=aa hrow3;have ke:=aa (HB.trans kn);have tD:=aa ((HB.trans kn).trans Ru);have Rw:=aa (show ((T++[(a,n,1,false)])++[(x,y,z,d)])++l.drop (k+1)=jn a n l by
     have h:=xA.o;rw[if_neg (by simp),fX.o,if_pos TY] at h;rw[← h];simp)
    have ai4:=aa (show ((T++[(a,n,1,false)])++[(x,y,z,d)]).length=m+1+1 by rw[List.length_append,List.length_append,pY.o];rfl);obtain ⟨s0,s1,s2,s3⟩:=aU.keep (af ke);clear hrun Rt hrow2 hrow3 kn Ru;go_wp2_with (at_builtin;first|refine Lib.wpList_append_run _ rfl _ _ _ _ rfl _ _ rfl rfl _ _ dJ.o ?_|refine Lib.wpList_append_run _ rfl _ _ _ _ rfl _ _ rfl rfl _ _ ade.o ?_);go_roundw
    case rel=>exact ⟨k+1,m+1+1,g3,c3,true,_,by omega,by go_num,rfl,rfl,ai4.o,by omega,Rv.o,by rw[if_pos rfl];exact Rw.o,tD.o⟩
    case measure=>simp[intOf];omega
   obtain ⟨g2,c2,w9,hrun,hrow2,kn,_⟩:=jm wr w.heap.size m _ T (x,y,z,d) bU (by omega) HB.size;simp only at hrun;have dJ:=aa hrun;have mX:=aa hrow2;have ke:=aa (HB.trans kn);have adf:=aa (show (T++[(x,y,z,d)]).length=m+1 by rw[List.length_append,pY.o];rfl);clear hrun hrow2 kn;cases laid with
   |true=>
    have Rw:=aa (show (T++[(x,y,z,d)])++l.drop (k+1)=jn a n l by
     have h:=xA.o;rw[if_pos rfl,YD.o] at h;rw[← h];simp)
    go_wp2_with (at_builtin;refine Lib.wpList_append_run _ rfl _ _ _ _ rfl _ _ rfl rfl _ _ dJ.o ?_);go_roundw
    case rel=>exact ⟨k+1,m+1,g2,c2,true,_,by omega,by go_num,rfl,rfl,adf.o,by omega,mX.o,by rw[if_pos rfl];exact Rw.o,ke.o⟩
    case measure=>simp[intOf];omega
   |false=>
    have TY:¬a<x:=fun h=>htwo ⟨rfl,h⟩;have d4:decide (a<x)=false:=by simpa using TY
    have Rw:=aa (show (T++[(x,y,z,d)])++jn a n (l.drop (k+1))=jn a n l by
     have h:=xA.o;rw[if_neg (by simp),fX.o,if_neg TY] at h;rw[← h];simp)
    clear htwo;go_wp2_with (at_builtin;refine Lib.wpList_append_run _ rfl _ _ _ _ rfl _ _ rfl rfl _ _ dJ.o ?_);go_roundw
    case rel=>exact ⟨k+1,m+1,g2,c2,false,_,by omega,by go_num,rfl,rfl,adf.o,by omega,mX.o,by rw[if_neg (by simp)];exact Rw.o,ke.o⟩
    case measure=>simp[intOf];omega
end Go.Proofs.YtbigkioechkngaaGreat
