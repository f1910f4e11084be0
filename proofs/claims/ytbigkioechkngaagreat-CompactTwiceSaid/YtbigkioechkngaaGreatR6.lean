/- The proof, part 7. -/
import Derived.Deep.RegionHeld3
import Derived.Test.YtbigkioechkngaaGreatR5
import Derived.Test.YtbigkioechkngaaGreatProg
import Derived.Outline
import Derived.Deep.RegionLaw
set_option maxRecDepth 100000
set_option maxHeartbeats 8000000
namespace Go.Proofs.YtbigkioechkngaaGreat
open Go.RowKit Tryz
variable {a:Int}{b:List Bool}{l:List dU}{B cap g j k m n:Nat}{v vl vo:Value}{W W' w:World}{u:aj}
theorem vQ (h:k≤30):1≤2 ^ k∧2 ^ k≤1073741824:=⟨Nat.one_le_two_pow,Nat.pow_le_pow_right (n:=2) (by decide) h⟩
theorem RF (k:Nat):(2:Int)*((2 ^ k:Nat):Int)=((2 ^ (k+1):Nat):Int):=by rw[Nat.pow_succ];omega
theorem vR (n:Nat) (h:n≤30) (w:World):Calls prog 177 #[.int .i64 n] w fun e w'=>e=.returned (.int .i64 ((2 ^ n:Nat):Int))∧w=w':=by
 have HN:=aa h;have hni:(n:Int)≤100:=by omega
 clear h;go_enter func177,ntmps177;go_wp2_with fail;go_loop [3,4] (fun x i=>∃(k:Nat) (y:Int),k≤n∧i=.int .i64 k∧x=.int .i64 y∧Hid (y=((2 ^ k:Nat):Int))) (fun _ i=>n-(intOf i).toNat)
 case atStart=>exact ⟨0,1,dO,rfl,rfl,aa rfl⟩
 case round=>
  obtain ⟨k,y,hk,rfl,rfl,hy⟩:=hrel;by_cases hlt:k<n
  ·have fN:(k:Int)<(n:Int):=by omega
   have hp:=vQ (show k≤30 by have:=HN.o;omega);have hps:=RF k;have Nw:Hid (2*y=((2 ^ (k+1):Nat):Int)):=by rw[hy.out,hps];exact aa rfl
   have Yz:wrap64 (2*y)=2*y:=by have:=hy.out;unfold wrap64;omega
   clear hp hps;go_wp2_with fail;go_round
   case rel=>exact ⟨k+1,2*y,by omega,by go_num,by rw[Yz],Nw⟩
   case measure=>simp[intOf];omega
  ·obtain rfl:k=n:=by omega
   go_wp2_with fail;go_ret;exact ⟨kH hy.out,rfl⟩
def cN (w:World) (o:Option (List Bool)) (e:Ending) (w':World):Prop:=match o with
 |none=>e=.returned (.tuple #[.slice none 0 0,.bool false])∧Bw w w'
 |some l=>∃v,e=.returned (.tuple #[v,.bool true])∧w'.ownsRow w.heap.size 4 1 v l.length (bQ l)∧Bw w w'
theorem cN.no {w':World} {o:Option (List Bool)} (h:o=none) (hb:Bw w w'):cN w o (.returned (.tuple #[.slice none 0 0,.bool false])) w':=by subst h;exact ⟨rfl,hb⟩
theorem cN.yes {w':World} {o:Option (List Bool)} {l:List Bool} (h:o=some l) (hn:l.length=n) (hr:w'.ownsRow w.heap.size 4 1 v n (bQ l)) (hb:Bw w w'):cN w o (.returned (.tuple #[v,.bool true])) w':=by subst h;subst hn;exact ⟨v,rfl,hr,hb⟩
theorem Kb (w:World) (b:List Bool) (v:Value) (h:dy w v b) (hl:b.length≤10000000) :
 ∃v' w',(Builtin.append_ #[24,24] 24 #[.slice (some ⟨w.heap.size,0,none⟩) 0 0,v]).run prog (w.alloc (.cells #[] 4))=.ok v' w'∧w'.ownsRow w.heap.size 4 1 v' b.length (bQ b)∧Bw w w':=by
 obtain ⟨i0,iM,hz0,hz1,hz2⟩:=info_parts qy;obtain ⟨p,c,rfl,hc,jh⟩:=h.src;obtain ⟨v',w',r1,r2,r3⟩:=dM (P:=prog) (w.alloc (.cells #[] 4)) w.heap.size 24 24 4 i0 (.bool false) 1 1 underlying24 iM hz0 hz1 hz2 rfl (by decide) _ 0 [] (World.ownsRow_made w #[] 0 aT (by unfold maxLen;omega) rfl) p b.length c (bQ b) (jh.stays (ar)) hc (by unfold maxLen;omega) (by omega) (by simp);refine ⟨v',w',r1,by simpa using r2,?_⟩;exact fy (il r3) aT (fun k hk=>by simp[Value.ownBlock] at hk;omega)
def YE (w:World) (b:List Bool) (n wd:Nat) (out i:Value) (wr:World):Prop:=
 ∃(k:Nat) (l:List Bool),k≤wd∧i=.int .i64 ((k:Int)-1)∧l.length=b.length+(wd-k)∧wr.ownsRow w.heap.size 4 1 out l.length (bQ l)∧l++bitsOf n k=b++bitsOf n wd∧Bw w wr
theorem Vq {l t:List Bool} (h:l++bitsOf n (k+1)=t):(l++[n/2 ^ k%2==1])++bitsOf n k=t:=by rw[← h,bitsOf];simp
theorem uE {n wd:Int} (h:¬(0≤wd∧wd≤30∧0≤n∧n<2 ^ wd.toNat)):sF b n wd=none:=by unfold sF;rw[if_neg h]
theorem CN (h1:k≤30) (h2:n<2 ^ k):sF b n k=some (b++bitsOf n k):=by unfold sF;rw[if_pos ⟨by omega,by omega,by omega,by have:((2 ^ k:Nat):Int)=(2:Int) ^ k:=(by simp);simp only[Int.toNat_natCast];omega⟩];rfl
theorem RG {x:Nat} (h:m≤1000000000000):((wrap64 ((m:Int)/(x:Int))).tmod 2==1)=(m/x%2==1):=by
 have h2:m/x≤m:=Nat.div_le_self _ _;have e:(m:Int)/(x:Int)=((m/x:Nat):Int):=by simp
 have e2:∀d:Nat,d≤m→wrap64 (d:Int)=(d:Int):=fun d hd=>by unfold wrap64;omega
 rw[e,e2 _ h2,show (2:Int)=((2:Nat):Int) from rfl,← Int.ofNat_tmod];rcases Nat.mod_two_eq_zero_or_one (m/x) with h|h <;> rw[h] <;> rfl
theorem Mg (b:List Bool) (n wd:Int) (v:Value) (w:World) (h:dy w v b) (hl:b.length≤1000000) (hn:n≤1000000000000):Calls prog 227 #[v,.int .i64 n,.int .i64 wd] w (cN w (sF b n wd)):=by
 have HB:=aa h;have HL:=aa hl;have rY:=aa hn;clear hn hl;obtain ⟨p,c,rfl,_,_,_,_⟩:=h;by_cases h1:wd<0
 ·have HF:=aa (uE (b:=b) (n:=n) (wd:=wd) (by omega))
  go_enter func227,ntmps227;go_wp2_with fail;refine au (cN.no HF aH) ?_;simp[results,results227,go_sem]
 by_cases h2:30<wd
 ·have HF:=aa (uE (b:=b) (n:=n) (wd:=wd) (by omega))
  go_enter func227,ntmps227;go_wp2_with fail;refine au (cN.no HF aH) ?_;simp[results,results227,go_sem]
 by_cases h3:n<0
 ·have HF:=aa (uE (b:=b) (n:=n) (wd:=wd) (by omega))
  go_enter func227,ntmps227;go_wp2_with fail;refine au (cN.no HF aH) ?_;simp[results,results227,go_sem]
 obtain ⟨k,rfl⟩:∃k:Nat,wd=k:=⟨wd.toNat,by omega⟩
 obtain ⟨m,rfl⟩:∃m:Nat,n=m:=⟨n.toNat,by omega⟩
 have hk:k≤30:=by omega
 have HK:=aa hk;have HPW:=aa (fun W=>vR k hk W);obtain ⟨q,hq⟩:∃q:Nat,2 ^ k=q:=⟨_,rfl⟩
 have HQ:=aa hq;have fN:(k:Int)≤30:=by omega
 clear hq hk h1 h2 h3;by_cases h4:q≤m
 ·have HF:=aa (uE (b:=b) (n:=(m:Int)) (wd:=(k:Int)) (by
   have h1:=HQ.o;have:((2 ^ k:Nat):Int)=(2:Int) ^ k:=by simp
   simp only[Int.toNat_natCast];rw[← this,h1];omega))
  have h5:decide ((m:Int)≥(q:Int))=true:=by simpa using h4
  have h6:decide ((q:Int)≤(m:Int))=true:=by simpa using h4
  have h7:decide (q≤m)=true:=by simpa using h4
  clear h4;go_enter func227,ntmps227;go_wp2_with (go_at_call 177;(refine (HPW.o _).mono ?_);rintro e w' ⟨rfl,rfl⟩;rw[HQ.o]);refine au (cN.no HF aH) ?_;simp[results,results227,go_sem]
 have hmq:m<2 ^ k:=by rw[HQ.o];omega
 have HF:=aa (CN (b:=b) HK hmq);have HM:=aa hmq;have h5:decide ((m:Int)≥(q:Int))=false:=by simp;omega
 have h6:decide ((q:Int)≤(m:Int))=false:=by simp;omega
 have h7:decide (q≤m)=false:=by simp;omega
 obtain ⟨v',w1,hrun,hrow,hb1⟩:=Kb w b _ HB (by have:=HL.o;omega);have dJ:=aa hrun;have bU:=aa hrow;have aY:=aa hb1;clear h4 hmq hrun hrow hb1;go_enter func227,ntmps227;go_wp2_with (first|(go_at_call 177;(with_reducible refine (HPW.o _).mono ?_);rintro e w' ⟨rfl,rfl⟩;rw[HQ.o])|(at_builtin;refine Lib.wpList_append_run _ rfl _ _ _ _ rfl _ _ rfl rfl _ _ dJ.o ?_));clear h5 h6 h7;go_loopw [8,9] (fun out i wr=>YE w b m k out i wr) (fun _ i _=>(intOf i+1).toNat)
 case atStart=>exact ⟨k,b,aT,rfl,by omega,bU,rfl,aY⟩
 case round=>
  obtain ⟨j,l,hj,rfl,pC,hrow,Xx,hb⟩:=hrel;have Kc:=aa pC;have Ua:=aa hrow;have HBT:=aa Xx;have vE:=aa hb;clear pC hrow Xx hb;by_cases hlt:0<j
  ·obtain ⟨i,rfl⟩:∃i,j=i+1:=⟨j-1,by omega⟩
   have Gg:((i+1:Nat):Int)-1=(i:Int):=(by omega);rw[Gg];have YF:i≤30:=by have:=HK.o;omega
   have hii:(i:Int)≤30:=(by omega);have YG:=aa (fun W=>vR i YF W);obtain ⟨x,hx⟩:=aG (2 ^ i);have HX:=aa hx;have hx0:(1:Int)≤(x:Int):=by have:=(vQ YF).1;omega
   have YH:=aa (Vq HBT);rw[hx] at YH;have aja:=RG (m:=m) (x:=x) (by have:=rY.o;omega);obtain ⟨y,hy⟩:=aG (m/x%2==1);rw[hy] at YH aja;obtain ⟨g,cp,w2,Xy,bY⟩:=qz wr w.heap.size l.length _ l y Ua (by have:=Kc.o;have:=HL.o;have:=HK.o;omega) vE.size;have RH:=aa Xy;have yD:=aa bY;have UC:(0:Int)≤(m:Int):=by omega
   clear Xy bY hy Gg hx YF;go_wp2_with (first|(go_at_call 177;(with_reducible refine (YG.o _).mono ?_);rintro e w' ⟨rfl,rfl⟩;rw[HX.o])|(at_builtin;refine Lib.wpList_append_run _ rfl _ _ _ _ rfl _ _ rfl rfl _ _ RH.o ?_));go_roundw
   case rel=>exact ⟨i,l++[y],by omega,rfl,by rw[List.length_append,Kc.o,List.length_singleton];omega,by rw[List.length_append,List.length_singleton,← qA];exact yD.row,YH,vE.trans yD.below⟩
   case measure=>simp[intOf]
  ·obtain rfl:j=0:=by omega
   have Fc:=aa (show sF b m k=some l by rw[HF.o];have:=HBT.o;rw[bitsOf,List.append_nil] at this;rw[this]);go_wp2_with fail;refine au (cN.yes Fc rfl Ua vE) ?_;simp[results,results227,go_sem]
theorem NF {l:List Bool} {y:Int} (h:y=((vI (l.take k):Nat):Int)) (hk:k≤30):wrap64 (2*y)=2*y∧wrap64 (2*y+1)=2*y+1:=by
 have h1:=L6 (l.take k);have h2:2 ^ (l.take k).length≤2 ^ 30:=Nat.pow_le_pow_right (by decide) (Nat.le_trans (List.length_take_le _ _) hk);have h3:(2:Nat) ^ 30=1073741824:=by decide
 unfold wrap64;omega
theorem GL {l:List Bool} {y:Int} {x:Bool} (h:y=((vI (l.take k):Nat):Int)) (hx:l[k]?=some x):2*y+(if x then 1 else 0)=((vI (l.take (k+1)):Nat):Int):=by rw[List.take_add_one,hx,Option.toList,Ns,h];cases x <;> simp
theorem YI:(prog.info? 5).map (fun i=>(i.zero,i.size,i.bytes))=some (some (.int .u8 0),1,1):=by kernel_rfl
theorem NG (W:World) (B n:Nat) (v:Value) (l:List UInt8) (x:UInt8) (hown:W.ownsRow B 5 1 v n (lT l)) (hn:n≤100000000) (hB:B≤W.heap.size) :
 ∃g cap w2,(Builtin.append_ #[112,112] 112 #[v,.slice (some ⟨W.heap.size,0,none⟩) 1 1]).run prog (W.alloc (.cells #[.int .u8 (x.toNat:Nat)] 5))=.ok (.slice (some ⟨g,0,none⟩) (n+1) cap) w2∧ku W w2 B n 5 1 v (lT l) [.int .u8 (x.toNat:Nat)] g cap:=by
 obtain ⟨i0,iM,hz0,hz1,hz2⟩:=info_parts YI;exact eV 112 5 i0 _ 1 1 underlying112 iM hz0 hz1 hz2 rfl (by decide) (by decide) W B n v (lT l) [.int .u8 (x.toNat:Nat)] hown rfl (by intro u hu;simp only[List.mem_cons,List.not_mem_nil,or_false] at hu;subst hu;rfl) hn hB
def nH (b:List Bool) (a:Nat):List Bool:=((b.drop a)++List.replicate 8 false).take 8
theorem Ad (b:List Bool) (a:Nat):(nH b a).length=8:=by unfold nH;simp
theorem NH {a:Nat} (h:j<8):(nH b a)[j]?=some (if a+j<b.length then b[a+j]?.getD false else false):=by
 unfold nH;rw[List.getElem?_take_of_lt h];by_cases hl:a+j<b.length
 ·rw[if_pos hl,List.getElem?_append_left (by rw[List.length_drop];omega),List.getElem?_drop,List.getElem?_eq_getElem hl];rfl
 ·rw[if_neg hl,List.getElem?_append_right (by rw[List.length_drop];omega),List.getElem?_replicate,if_pos (by rw[List.length_drop];omega)]
theorem NI (h:k<m):tr (m-k) (b.drop (8*k))=UInt8.ofNat (vI (nH b (8*k)))::tr (m-(k+1)) (b.drop (8*(k+1))):=by rw[show m-k=(m-(k+1))+1 by omega,tr,List.drop_drop];rfl
def YJ (P:List Bool) (n i:Value):Prop:=∃(j:Nat) (y:Int),j≤8∧i=.int .i64 j∧n=.int .i64 y∧Hid (y=((vI (P.take j):Nat):Int))
def Vr (w:World) (b:List Bool) (t:List UInt8) (m:Nat) (v i:Value) (wr:World):Prop:=
 ∃(k:Nat) (pre:List UInt8) (g cap:Nat),k≤m∧i=.int .i64 ((8*k:Nat):Int)∧v=.slice (some ⟨g,0,none⟩) k cap∧pre.length=k∧wr.ownsRow w.heap.size 5 1 v k (lT pre)∧pre++tr (m-k) (b.drop (8*k))=t∧Bw w wr
theorem Mh (h:n<256):((UInt8.ofNat n).toNat:Int)=(n:Int):=by simp;omega
theorem GM (b:List Bool) (v:Value) (w:World) (h:dy w v b) (hl:b.length≤1000000):Calls prog 184 #[v] w fun e w'=>e=.returned (.string ⟨(Gi b).toArray⟩)∧Bw w w':=by
 obtain ⟨p,c,rfl,hc1,hc2,_,ha⟩:=h;have HA:=aa ha;obtain ⟨N,hN⟩:=aG b.length;rw[hN] at hc1 hl;rw[hN];have HN:=aa hN;have hlN:(N:Int)≤1000000:=by omega
 obtain ⟨m,hm⟩:=aG ((N+7)/8);have HM:=aa hm;obtain ⟨t,ht⟩:=aG (Gi b);rw[ht];have HT:=aa ht;have bU:=aa (World.ownsRow_made w #[] 0 (Nat.le_refl w.heap.size) (by unfold maxLen;omega) rfl:(w.alloc (.cells #[] 5)).ownsRow w.heap.size 5 1 (.slice (some ⟨w.heap.size,0,none⟩) 0 0) 0 []);clear ha hN hl hc1 hc2 hm ht;go_enter func184,ntmps184;go_wp2_with fail;go_loopw [3,4,5,6] (fun v i _ _ wr=>Vr w b t m v i wr) (fun _ i _ _ _=>m*8-(intOf i).toNat)
 case atStart=>exact ⟨0,[],_,_,dO,rfl,rfl,rfl,bU,by have:=HT.o;unfold Gi at this;rw[HN.o,HM.o] at this;rw[← this];rfl,ar⟩
 case round=>
  obtain ⟨k,pre,gr,cr,hk,rfl,rfl,hpl,hrow,hpk,hb⟩:=hrel;have Vs:=aa hpl;have HR:=aa hrow;have HPK:=aa hpk;have HB:=aa hb;clear hpl hrow hpk hb bU;obtain ⟨a,ha⟩:=aG (8*k);rw[ha];have WZ:=aa ha;by_cases hlt:a<N
  ·have hai:(a:Int)<(N:Int):=by omega
   have hkm:k<m:=by have:=HM.o;omega
   have fX:=aa (NI (b:=b) hkm);rw[ha] at fX;clear ha;go_wp2_with fail;go_loop [5,6] (fun n i=>YJ (nH b a) n i) (fun _ i=>8-(intOf i).toNat)
   case atStart=>exact ⟨0,0,by omega,rfl,rfl,aa (by simp[vI])⟩
   case round=>
    obtain ⟨j,y,hj,rfl,rfl,hy⟩:=hrel;by_cases iZ:j<8
    ·have Gg:(j:Int)<8:=by omega
     obtain ⟨q,hq⟩:∃q:Nat,a+j=q:=⟨_,rfl⟩
     have hqi:(a:Int)+(j:Int)=(q:Int):=(by omega);have HX:=aa (NH (b:=b) (a:=a) iZ);rw[hq,HN.o] at HX;obtain ⟨w1,w2⟩:=NF hy.out (show j≤30 by omega);have HWQ:=aa hqi;by_cases hqN:q<N
     ·have ajb:(q:Int)<(N:Int):=by omega
      obtain ⟨x,hx⟩:=fx (l:=b) (k:=q) (by rw[HN.o];omega);obtain ⟨g,o,rfl,r0⟩:=HA.o q x hx;replace r0:=ae HB r0;have HV:=aa (GL hy.out (show (nH b a)[j]?=some x by rw[HX.o,if_pos hqN,hx];rfl));have hd:decide ((a:Int)+(j:Int)<(N:Int))=true:=by simp;omega
      clear hx hq;cases x
      all_goals
       go_wp2_with fail;go_round
       case rel=>refine ⟨j+1,_,by omega,by go_num,?_,aa HV.o⟩;simp[w1,w2]
       case measure=>simp[intOf];omega
     ·have ajb:¬(q:Int)<(N:Int):=by omega
      have HV:=aa (GL hy.out (show (nH b a)[j]?=some false by rw[HX.o,if_neg hqN]));have hd:decide ((a:Int)+(j:Int)<(N:Int))=false:=by simp;omega
      clear hq;go_wp2_with fail;go_round
      case rel=>refine ⟨j+1,_,by omega,by go_num,?_,aa HV.o⟩;simp[w1]
      case measure=>simp[intOf];omega
    ·obtain rfl:j=8:=by omega
     obtain ⟨z,hz⟩:=aG (vI (nH b a));have RI:z<256:=by rw[← hz];have:=L6 (nH b a);rw[Ad] at this;exact this
     have hyz:y=(z:Int):=by have:=hy.out;rw[List.take_of_length_le (by rw[Ad];exact aT),hz] at this;exact this
     subst hyz;rw[hz] at fX;have HZ:=aa (Mh RI);obtain ⟨g,cp,w2,hrun,bY⟩:=NG wr w.heap.size k _ pre (UInt8.ofNat z) HR (by have:=HM.o;omega) HB.size;rw[Mh RI] at hrun;have dJ:=aa hrun;have yD:=aa bY;have hz1:(0:Int)≤(z:Int):=by omega
     have hz2:(z:Int)≤255:=(by omega);have hz3:(z:Int)%256=(z:Int):=by omega
     clear hrun bY hz RI hy iZ;go_wp2_with (at_builtin;refine Lib.wpList_append_run _ rfl _ _ _ _ rfl _ _ rfl rfl _ _ dJ.o ?_);go_roundw
     case rel=>
      refine ⟨k+1,pre++[UInt8.ofNat z],_,_,hkm,?_,rfl,by rw[List.length_append,Vs.o];rfl,?_,?_,HB.trans yD.below⟩
      ·have:=WZ.o;congr 1;omega
      ·rw[← FD];exact yD.row
      ·rw[← HPK.o,WZ.o,fX.o];simp
     case measure=>have:=WZ.o;simp[intOf];omega
  ·have HE:=aa (show pre=t by
    have:m-k=0:=by have:=HM.o;omega
    have h2:=HPK.o;rw[this,tr,List.append_nil] at h2;exact h2)
   have htx:(convert 112 9 (.slice (some ⟨gr,0,none⟩) k cr)).run prog wr=.ok (.string ⟨t.toArray⟩) wr:=by
    have h:=DU (P:=prog) (w:=wr) (B:=w.heap.size) (g:=gr) (cap:=cr) (l:=pre) underlying112 underlying5 underlying9 (by rw[Vs.o];exact HR)
    rwa [Vs.o,HE.o] at h
   have J8:=aa HB.o;clear ha;go_wp2_with fail;go_ret;exact ⟨rfl,J8⟩
def dR (x:dU×Value):List Value:=[.int .i64 x.1.wt,.int .i64 x.1.num,x.2]
theorem oW (x:dU×Value):(dR x).length=3:=rfl
theorem GN {p:Nat} (h:k<n):oU l (n-k) k p=oU l (n-(k+1)) (k+1) (if pF (qG l k) (qG l p)=true then k else p):=by rw[show n-k=(n-(k+1))+1 by omega,oU]
def adh (w:World) (l:List dU) (n:Nat) (p i:Value) (wr:World):Prop:=
 ∃k q:Nat,1≤k∧k≤n∧q<n∧i=.int .i64 k∧p=.int .i64 q∧cW l=oU l (n-k) k q∧Bw w wr
theorem CO (xs:List (dU×Value)) (v1:Value) (w:World) (h1:dw w v1 3 dR xs) (hl:1≤xs.length) (hl2:xs.length≤1000):Calls prog 231 #[v1] w fun e w'=>e=.returned (.int .i64 ((cW (xs.map Prod.fst):Nat):Int))∧Bw w w':=by
 obtain ⟨p,c,rfl,hc1,hc2,_,ha⟩:=h1;have HA:=aa ha;obtain ⟨N,hN⟩:=aG xs.length;rw[hN] at hc1 hl hl2;rw[hN];have HN:=aa hN;obtain ⟨l,hlx⟩:=aG (xs.map Prod.fst);rw[hlx];have rC:=aa (show l.length=N by rw[← hlx,List.length_map,hN]);have QV:=aa (show ∀i x,xs[i]?=some x→qG l i=x.1 from fun i x hx=>by unfold qG;rw[← hlx,List.getElem?_map,hx];rfl);have b1:(N:Int)≤1000:=by omega
 clear ha hN hc1 hc2 hlx;go_enter func231,ntmps231;go_wp2_with fail;go_loopw [3,4] (fun p i wr=>adh w l N p i wr) (fun _ i _=>N-(intOf i).toNat)
 case atStart=>exact ⟨1,0,aT,hl,hl,rfl,rfl,by unfold cW;rw[rC.o],aH⟩
 case round=>
  obtain ⟨k,q,FH,hk,hq,rfl,rfl,hle,hb⟩:=hrel;have nV:=aa hle;have HB:=aa hb;clear hle hb;by_cases hlt:k<N
  ·have fN:(k:Int)<(N:Int):=by omega
   have hqi:(q:Int)<(N:Int):=(by omega);have k0:(0:Int)≤(k:Int):=by omega
   have q0:(0:Int)≤(q:Int):=(by omega);obtain ⟨⟨⟨wi,ni,ii⟩,ri⟩,hs⟩:∃s,xs[k]?=some s:=⟨_,List.getElem?_eq_getElem (by rw[HN.o];exact hlt)⟩
   obtain ⟨⟨⟨wa,na,ia⟩,ra⟩,hs2⟩:∃s,xs[q]?=some s:=⟨_,List.getElem?_eq_getElem (by rw[HN.o];exact hq)⟩
   obtain ⟨g,o,rfl,hc⟩:=HA.o k _ hs;obtain ⟨g',o',e,hc'⟩:=HA.o q _ hs2;cases e;have r0:=ae HB (hc 0 _ rfl);have r1:=ae HB (hc 1 _ rfl);have s0:=ae HB (hc' 0 _ rfl);have s1:=ae HB (hc' 1 _ rfl);replace r0:wr.cell? ⟨g,o+k*3,none⟩=some (.int .i64 wi):=r0;replace r1:wr.cell? ⟨g,o+k*3+1,none⟩=some (.int .i64 ni):=r1;replace s0:wr.cell? ⟨g,o+q*3,none⟩=some (.int .i64 wa):=s0;replace s1:wr.cell? ⟨g,o+q*3+1,none⟩=some (.int .i64 na):=s1;have fX:=aa (GN (l:=l) (p:=q) hlt);rw[QV.o _ _ hs,QV.o _ _ hs2] at fX;clear hc hc' hs hs2;have um:(wi<wa)∨(¬wi<wa∧¬wi=wa)∨(¬wi<wa∧wi=wa∧ni<na)∨(¬wi<wa∧wi=wa∧¬ni<na):=by omega
   rcases um with c1|⟨c1,c2⟩|⟨c1,rfl,c3⟩|⟨c1,rfl,c3⟩
   ·have Jp:=aa (show pF ⟨wi,ni,ii⟩ ⟨wa,na,ia⟩=true by unfold pF;simp[c1])
    have d1:decide (wi<wa)=true:=(by simp[c1]);clear c1;go_wp2_with fail;go_quiet (fail);go_wp2_with fail;go_roundw
    case rel=>exact ⟨k+1,k,by omega,by omega,hlt,by go_num,rfl,by rw[nV.o,fX.o,if_pos Jp.o],az HB.o _⟩
    case measure=>simp[intOf];omega
   ·have Jp:=aa (show pF ⟨wi,ni,ii⟩ ⟨wa,na,ia⟩=false by unfold pF;simp[c1,c2])
    have d1:decide (wi<wa)=false:=(by simp[c1]);have d2:(wi==wa)=false:=by simp[c2]
    clear c1 c2;go_wp2_with fail;go_quiet (fail);go_wp2_with fail;go_roundw
    case rel=>exact ⟨k+1,q,by omega,by omega,hq,by go_num,rfl,by rw[nV.o,fX.o,if_neg (by rw[Jp.o];simp)],az HB.o _⟩
    case measure=>simp[intOf];omega
   ·have Jp:=aa (show pF ⟨wi,ni,ii⟩ ⟨wi,na,ia⟩=true by unfold pF;simp[c3])
    have d1:decide (wi<wi)=false:=(by simp);have d2:(wi==wi)=true:=by simp
    have d3:decide (ni<na)=true:=(by simp[c3]);clear c1 c3;go_wp2_with fail;go_quiet (fail);go_wp2_with fail;go_roundw
    case rel=>exact ⟨k+1,k,by omega,by omega,hlt,by go_num,rfl,by rw[nV.o,fX.o,if_pos Jp.o],az HB.o _⟩
    case measure=>simp[intOf];omega
   ·have Jp:=aa (show pF ⟨wi,ni,ii⟩ ⟨wi,na,ia⟩=false by unfold pF;simp[c3])
    have d1:decide (wi<wi)=false:=(by simp);have d2:(wi==wi)=true:=by simp
    have d3:decide (ni<na)=false:=(by simp[c3]);clear c1 c3;go_wp2_with fail;go_quiet (fail);go_wp2_with fail;go_roundw
    case rel=>exact ⟨k+1,q,by omega,by omega,hq,by go_num,rfl,by rw[nV.o,fX.o,if_neg (by rw[Jp.o];simp)],az HB.o _⟩
    case measure=>simp[intOf];omega
  ·obtain rfl:k=N:=by omega
   have HF:=aa (show cW l=q by rw[nV.o,Nat.sub_self];rfl);go_wp2_with fail;go_ret;exact ⟨kH (by rw[HF.o]),HB⟩
theorem Mi:(prog.info? 283).map (fun i=>(i.zero,i.size,i.bytes))=some (some (.agg #[.int .i64 0,.int .i64 0,.slice none 0 0]),3,40):=by kernel_rfl
theorem GP {o:Nat} {rows:List (List Value)} {f:Nat} (h:iK w (some ⟨g,o,none⟩) n k rows.flatten) (ha:nB k rows) (hn:rows.length=n) (hm:f+m≤n):iK w (some ⟨g,o+f*k,none⟩) m k ((rows.drop f).take m).flatten:=by
 refine ⟨?_,(fun e=>by cases e),?_,?_⟩
 ·rw[wU (fun x hx=>ha x (List.mem_of_mem_drop (List.mem_of_mem_take hx))),List.length_take,List.length_drop,hn,Nat.min_eq_left (by omega)]
 ·intro u hu
  obtain ⟨q,hq,hu⟩:=List.mem_flatten.1 hu;exact h.2.2.1 u (List.mem_flatten.2 ⟨q,List.mem_of_mem_drop (List.mem_of_mem_take hq),hu⟩)
 ·intro a e j u hj
  cases e;rw[← Ci m (fun x hx=>ha x (List.mem_of_mem_drop hx)),← Cj f ha] at hj;have hj1:j<m*k:=by have:=(List.getElem?_eq_some_iff.1 hj).1;rw[List.length_take] at this;omega
  rw[List.getElem?_take_of_lt hj1,List.getElem?_drop] at hj;have:=h.2.2.2 _ rfl _ _ hj;rw[nA] at this ⊢;rw[Nat.add_assoc];exact this
theorem xF (g o n c p:Nat) (rows:List (List Value)) (w:World) (jh:iK w (some ⟨g,o,none⟩) n 3 rows.flatten) (hall:nB 3 rows) (hlen:rows.length=n) (hp:p<n) (Uc:n≤c) (hc:c≤maxLen) (hn:n≤1000) :
 Calls prog 232 #[.slice (some ⟨g,o,none⟩) n c,.int .i64 p] w fun e w'=>∃v',e=.returned v'∧w'.ownsRow w.heap.size 283 3 v' (n-1) (rows.eraseIdx p).flatten∧Bw w w':=by
 obtain ⟨i0,hi,hz0,hz1,hz2⟩:=info_parts Mi;have s1:=(GP (f:=0) (m:=p) jh hall hlen (by omega)).stays (aH.alloc aT (.cells #[] 283));rw[Nat.zero_mul,Nat.add_zero,List.drop_zero] at s1;obtain ⟨v1,w1,r1,o1,g1⟩:=dM (P:=prog) (w.alloc (.cells #[] 283)) w.heap.size 281 281 283 i0 (.agg #[.int .i64 0,.int .i64 0,.slice none 0 0]) 3 40 underlying281 hi hz0 hz1 hz2 rfl (by decide) _ 0 [] (World.ownsRow_made w #[] 0 aT (by unfold maxLen;omega) rfl) _ p c _ s1 (fun e=>by cases e) (by unfold maxLen;omega) (by omega) (by simp);have hb1:Bw w w1:=fy (il g1) aT (fun k hk=>by simp[Value.ownBlock] at hk;omega);rw[List.nil_append,Nat.zero_add] at o1;obtain ⟨qo,hqo⟩:=aG (if c=p+1 then o else o+(p+1)*3);have s2:iK w1 (some ⟨g,qo,none⟩) (n-(p+1)) 3 (rows.drop (p+1)).flatten:=by
  have h2:=GP (f:=p+1) (m:=n-(p+1)) jh hall hlen (by omega);rw[List.take_of_length_le (by rw[List.length_drop];omega)] at h2;refine iK.stays ?_ hb1;rw[← hqo];by_cases e:c=p+1
  ·rw[if_pos e]
   have e0:n-(p+1)=0:=(by omega);rw[e0] at h2 ⊢;refine ⟨h2.1,(fun e=>by cases e),h2.2.2.1,fun a ha j u hj=>?_⟩;rw[List.eq_nil_of_length_eq_zero (show (rows.drop (p+1)).flatten.length=0 by rw[h2.1])] at hj;simp at hj
  ·rw[if_neg e];exact h2
 obtain ⟨v2,w2,r2,o2,g2⟩:=dM (P:=prog) w1 w.heap.size 281 281 283 i0 (.agg #[.int .i64 0,.int .i64 0,.slice none 0 0]) 3 40 underlying281 hi hz0 hz1 hz2 rfl (by decide) v1 p _ o1 _ (n-(p+1)) (c-(p+1)) _ s2 (fun e=>by cases e) (by unfold maxLen;omega) (by omega) hb1.size;have hb2:Bw w w2:=hb1.grown g2 hb1.size (fun k hk=>(o1.lt k hk).1);have e1:p+(n-(p+1))=n-1:=by omega
 rw[e1] at o2;have HO:=aa (show w2.ownsRow w.heap.size 283 3 v2 (n-1) (rows.eraseIdx p).flatten by rw[List.eraseIdx_eq_take_drop_succ,List.flatten_append];exact o2);have BO:=aa r1;have jO:=aa r2;have bS:=aa hb2;have p0:(p:Int)≤(c:Int):=by omega
 have p1:(p:Int)+1≤(n:Int):=by omega
 have p2:(n:Int)≤1000:=by omega
 have p3:(n:Int)≤(c:Int):=by omega
 have hw:IntKind.i64.wrap ((p:Int)+1)=(p:Int)+1:=by rw[IntKind.wrap_i64];omega
 clear r1 r2 o1 o2 g1 g2 hb1 hb2 s1 s2 jh hall hlen e1 hi hz0 hz1 hz2;by_cases e:c=p+1
 ·rw[if_pos e] at hqo
  subst hqo;obtain rfl:n=p+1:=by omega
  subst e;rw[Nat.sub_self] at jO;go_enter func232,ntmps232;go_upto_region 2 with (at_builtin;refine Lib.wpList_append_run _ rfl _ _ _ _ rfl _ _ rfl rfl _ _ BO.o ?_);go_wp2_with (at_builtin;go_loud (refine Lib.wpList_append_run _ rfl _ _ _ _ rfl _ _ rfl rfl _ _ jO.o ?_));go_ret;exact ⟨_,rfl,HO,bS⟩
 ·rw[if_neg e] at hqo
  subst hqo;have HE:=aa e;go_enter func232,ntmps232;go_upto_region 2 with (at_builtin;refine Lib.wpList_append_run _ rfl _ _ _ _ rfl _ _ rfl rfl _ _ BO.o ?_);go_wp2_with (at_builtin;refine Lib.wpList_append_run _ rfl _ _ _ _ rfl _ _ rfl rfl _ _ jO.o ?_);go_ret;exact ⟨_,rfl,HO,bS⟩
def r9 (x:Int):List Value:=[.int .i64 x]
theorem uF (x:Int):(r9 x).length=1:=rfl
theorem GQ (x:Int):∀u∈r9 x,u.oneCell'=true:=by intro u hu;unfold r9 at hu;simp only[List.mem_singleton] at hu;subst hu;rfl
theorem rJ (l:List Int):bk r9 l=bw l:=by
 unfold bk bw
 induction l with
 |nil=>rfl
 |cons a l ih=>rw[List.map_cons,List.flatten_cons,ih];rfl
theorem ou {α:Type} {e:TypeId} {f:α→List Value} {l:List α} {F:Nat→Prop} (hf:∀x,(f x).length=k) (hn:l.length=n) (h:W.ownsRow B e k v n (bk f l)) (hF:∀b,v.ownBlock=some b→F b):dw (mask F W) v k f l:=by obtain ⟨p,c,h1,h2,h3,h5,h4⟩:=kx hf hn h;refine ⟨p,c,h1,h2,h3,h5,fun i x hx=>?_⟩;obtain ⟨g,o,e1,e2⟩:=h4 i x hx;exact ⟨g,o,e1,fun j u hj=>aq.2 ⟨hF g (by rw[h1,e1];rfl),e2 j u hj⟩⟩
def El (vo vl:Value):Nat→Prop:=fun q=>some q≠vo.ownBlock∧some q≠vl.ownBlock
def dB (W:World) (B:Nat) (vo vl:Value) (n:Nat) (l:List dU):Prop:=
 ∃xs:List (dU×Value),xs.map Prod.fst=l∧xs.length=n∧W.ownsRow B 283 3 vl n (bk dR xs)∧∀x∈xs,dw (mask (El vo vl) W) x.2 1 r9 x.1.ins
theorem dB.move {vo':Value} (h:dB W B vo vl n l) (hrow:∀xs,W.ownsRow B 283 3 vl n xs→W'.ownsRow B 283 3 vl n xs)
 (hc:∀a u,W.cell? a=some u→some a.block≠vo.ownBlock→some a.block≠vl.ownBlock→W'.cell? a=some u) (hv:vo'.ownBlock=vo.ownBlock∨∀b,vo'.ownBlock=some b→W.heap.size≤b):dB W' B vo' vl n l:=by
 obtain ⟨xs,h1,h2,h3,h4⟩:=h;refine ⟨xs,h1,h2,hrow _ h3,fun x hx=>(h4 x hx).keep (bF fun a u hF hu=>⟨⟨?_,hF.2⟩,hc a u hu hF.1 hF.2⟩)⟩;rcases hv with e|e
 ·rw[e];exact hF.1
 ·intro e2
  have:=e _ e2.symm;have:=World.block_lt_of_cell? _ _ hu;omega
theorem dB.below (h:dB W B vo vl n l) (hb:Bw W W'):dB W' B vo vl n l:=
 h.move (fun _ hx=>aL hx hb) (fun _ _ hu _ _=>ae hb hu) (.inl rfl)
theorem dB.out {vo':Value} (h:dB W B vo vl n l) (hg:W.grownBy W' vo.ownBlock) (hap:eo vl vo) (hv:vo'.ownBlock=vo.ownBlock∨∀b,vo'.ownBlock=some b→W.heap.size≤b):dB W' B vo' vl n l:=
 h.move (fun _ hx=>hx.kept hg hap) (fun _ _ hu h1 _=>hg.cell hu h1) hv
theorem dB.len (h:dB W B vo vl n l):l.length=n:=by obtain ⟨xs,h1,h2,_⟩:=h;rw[← h1,List.length_map,h2]
theorem dB.push {w2:World} {xs:List (dU×Value)} {t:dU} {r:Value} (h1:xs.map Prod.fst=l) (h4:∀x∈xs,dw (mask (El vo vl) W) x.2 1 r9 x.1.ins) (hr:dw (mask (El vo vl) W) r 1 r9 t.ins)
 (hp:ku W w2 B n 283 3 vl (bk dR xs) (dR (t,r)) g cap) (hn:xs.length=n):dB w2 B vo (.slice (some ⟨g,0,none⟩) (n+1) cap) (n+1) (l++[t]):=by
 refine ⟨xs++[(t,r)],by rw[List.map_append,h1];rfl,by rw[List.length_append,hn];rfl,by rw[← fC];exact hp.row,fun x hx=>?_⟩;have key:dw (mask (El vo vl) W) x.2 1 r9 x.1.ins:=by
  rcases List.mem_append.1 hx with hx|hx
  ·exact h4 x hx
  ·simp only[List.mem_singleton] at hx;subst hx;exact hr
 refine key.keep (bF fun a u hF hu=>⟨⟨hF.1,?_⟩,hp.cells a u hu hF.2⟩);rcases hp.at_ with e|e
 ·rw[e];exact hF.2
 ·intro e2
  have:=World.block_lt_of_cell? _ _ hu;simp only[Value.ownBlock,Option.some.injEq] at e2;omega
theorem Mj:(prog.info? 3).map (fun i=>(i.zero,i.size,i.bytes))=some (some (.int .i64 0),1,8):=by kernel_rfl
theorem xG (W:World) (B n:Nat) (v:Value) (l:List Int) (x:Int) (hown:W.ownsRow B 3 1 v n (bw l)) (hn:n≤100000000) (hB:B≤W.heap.size) :
 ∃g cap w2,(Builtin.append_ #[70,70] 70 #[v,.slice (some ⟨W.heap.size,0,none⟩) 1 1]).run prog (W.alloc (.cells #[.int .i64 x] 3))=.ok (.slice (some ⟨g,0,none⟩) (n+1) cap) w2∧ku W w2 B n 3 1 v (bw l) [.int .i64 x] g cap:=by
 obtain ⟨i0,iM,hz0,hz1,hz2⟩:=info_parts Mj;exact eV 70 3 i0 _ 1 8 underlying70 iM hz0 hz1 hz2 rfl (by decide) (by decide) W B n v (bw l) [.int .i64 x] hown rfl (by intro u hu;simp only[List.mem_cons,List.not_mem_nil,or_false] at hu;subst hu;rfl) hn hB
theorem Ae (l:List Int) (x:Int):bw l++[.int .i64 x]=bw (l++[x]):=by unfold bw;rw[List.map_append];rfl
theorem Af (W:World) (B n:Nat) (v:Value) (xs:List (dU×Value)) (a b:Int) (r:Value) (hr:r.oneCell'=true) (ins:List Int) (hown:W.ownsRow B 283 3 v n (bk dR xs)) (hn:n≤100000000) (hB:B≤W.heap.size) :
 ∃g cap w2,(Builtin.append_ #[281,281] 281 #[v,.slice (some ⟨W.heap.size,0,none⟩) 1 1]).run prog (W.alloc (.cells #[.int .i64 a,.int .i64 b,r] 283))=.ok (.slice (some ⟨g,0,none⟩) (n+1) cap) w2∧ku W w2 B n 283 3 v (bk dR xs) (dR (⟨a,b,ins⟩,r)) g cap:=by
 obtain ⟨i0,iM,hz0,hz1,hz2⟩:=info_parts Mi;exact eV 281 283 i0 _ 3 40 underlying281 iM hz0 hz1 hz2 rfl (by decide) (by decide) W B n v (bk dR xs) (dR (⟨a,b,ins⟩,r)) hown rfl (by intro u hu;unfold dR at hu;simp only[List.mem_cons,List.not_mem_nil,or_false] at hu;rcases hu with rfl|rfl|rfl;rfl;rfl;exact hr) hn hB
theorem ku.slice {w2:World} {E:TypeId} {xs news:List Value} (h:ku W w2 B n E k v xs news g cap):(Value.slice (some ⟨g,0,none⟩) (n+1) cap).ownBlock=v.ownBlock∨∀b,(Value.slice (some ⟨g,0,none⟩) (n+1) cap).ownBlock=some b→W.heap.size≤b:=by
 rcases h.at_ with e|e
 ·exact .inl e
 ·refine .inr fun b hb=>?_
  simp only[Value.ownBlock,Option.some.injEq] at hb;omega
theorem dB.cell (h:dB W B vo (.slice (some ⟨g,0,none⟩) n cap) n l) {i:Nat} {t:dU} (ht:l[i]?=some t) :
 ∃r,W.cell? ⟨g,i*3,none⟩=some (.int .i64 t.wt)∧W.cell? ⟨g,i*3+1,none⟩=some (.int .i64 t.num)∧W.cell? ⟨g,i*3+2,none⟩=some r∧dw (mask (El vo (.slice (some ⟨g,0,none⟩) n cap)) W) r 1 r9 t.ins:=by
 obtain ⟨xs,h1,h2,h3,h4⟩:=h;have hx:∃x,xs[i]?=some x∧x.1=t:=by
  rw[← h1,List.getElem?_map] at ht;cases u9:xs[i]? with
  |none=>rw[u9] at ht;cases ht
  |some x=>rw[u9] at ht;simp only[Option.map_some,Option.some.injEq] at ht;exact ⟨x,rfl,ht⟩
 obtain ⟨x,u9,rfl⟩:=hx;have hc:∀j u,(dR x)[j]?=some u→W.cell? ⟨g,i*3+j,none⟩=some u:=fun j u hj=>by obtain ⟨h6,h7⟩:=List.getElem?_eq_some_iff.1 (eN oW xs i x j u u9 hj);rw[bG h3 _ h6,h7]
 exact ⟨x.2,hc 0 _ rfl,hc 1 _ rfl,hc 2 _ rfl,h4 x (List.mem_of_getElem? u9)⟩
theorem row_one {α:Type} {f:α→List Value} {l:List α} (h:dw w v k f l):v.oneCell'=true:=by obtain ⟨p,c,rfl,_⟩:=h;rfl
theorem dB.rows (h:dB W B vo vl n l) (hn:1≤n):∃(g cap:Nat) (xs:List (dU×Value)),vl=.slice (some ⟨g,0,none⟩) n cap∧n≤cap∧cap≤maxLen∧xs.map Prod.fst=l∧xs.length=n∧dw W vl 3 dR xs∧iK W (some ⟨g,0,none⟩) n 3 ((xs.map dR).flatten)∧∀x∈xs,dw (mask (El vo vl) W) x.2 1 r9 x.1.ins:=by
 obtain ⟨xs,h1,h2,h3,h4⟩:=h;rcases aJ h3 with ⟨_,e,_⟩|⟨g,cap,rfl⟩
 ·omega
 obtain ⟨cur,hg,_,c1,c2,YK⟩:=bl h3;refine ⟨g,cap,xs,rfl,c1,c2,h1,h2,kx oW h2 h3,⟨?_,(fun e=>by cases e),?_,?_⟩,h4⟩
 ·have:=lI oW xs
  unfold bk at this;rw[this,h2]
 ·intro u hu
  obtain ⟨q,hq,hu⟩:=List.mem_flatten.1 hu;obtain ⟨x,hx,rfl⟩:=List.mem_map.1 hq;unfold dR at hu;simp only[List.mem_cons,List.not_mem_nil,or_false] at hu;rcases hu with rfl|rfl|rfl
  ·rfl
  ·rfl
  ·exact row_one (h4 x hx)
 ·intro a e j u hj
  cases e;obtain ⟨h6,h7⟩:=List.getElem?_eq_some_iff.1 hj;rw[jM,bG h3 j h6,← h7];rfl
theorem CP {α β:Type} (f:α→β) (l:List α) (p:Nat):(l.eraseIdx p).map f=(l.map f).eraseIdx p:=by rw[List.eraseIdx_eq_take_drop_succ,List.eraseIdx_eq_take_drop_succ,List.map_append,List.map_take,List.map_drop]
theorem dB.erase {p:Nat} {v':Value} {xs:List (dU×Value)} (h1:xs.map Prod.fst=l) (h2:xs.length=n) (hp:p<n) (h4:∀x∈xs,dw (mask (El vo vl) W) x.2 1 r9 x.1.ins) (hb:Bw W W') (hB:B≤W.heap.size)
 (ho:W'.ownsRow W.heap.size 283 3 v' (n-1) ((xs.map dR).eraseIdx p).flatten):dB W' B vo v' (n-1) (l.eraseIdx p):=by
 refine ⟨xs.eraseIdx p,by rw[← h1,CP],by rw[List.length_eraseIdx_of_lt (by omega),h2],?_,fun x hx=>?_⟩
 ·unfold bk;rw[CP];exact bz hB ho
 ·refine (h4 x (List.mem_of_mem_eraseIdx hx)).keep (bF fun a u hF hu=>⟨⟨hF.1,?_⟩,ae hb hu⟩)
  intro e;have:=(ho.lt _ e.symm).1;have:=World.block_lt_of_cell? _ _ hu;omega
theorem NJ {out:List Int} {M:Int} (s:Int) (h:∀x∈out,x≤M) (hM:0≤M):∀x∈fV out s,x≤M+1:=by
 intro x hx;unfold fV at hx;rcases List.mem_or_eq_of_mem_set hx with hx|rfl
 ·have:=h x hx;omega
 ·cases hs:out[s.toNat]? with
  |none=>simp;omega
  |some y=>have:=h y (List.mem_of_getElem? hs);simp;omega
theorem NK (l:List Int):∀ {out:List Int} {M:Int},(∀x∈out,x≤M)→0≤M→∀x∈gA out l,x≤M+l.length:=by
 induction l with
 |nil=>intro out M h _ x hx;have:=h x hx;simp;omega
 |cons a l ih=>intro out M h hM x hx;have:=ih (NJ a h hM) (by omega) x hx;rw[List.length_cons];omega
theorem GR {out l:List Int} {s:Int} (h:l[j]?=some s):gA out (l.take (j+1))=fV (gA out (l.take j)) s:=by unfold gA;rw[List.take_add_one,h,Option.toList,List.foldl_append];rfl
def ajd:Value→Nat
 |.slice _ n _=>n
 |_=>0
theorem rK (l:List Int) (j:Nat) (x:Int):(bw l).set j (.int .i64 x)=bw (l.set j x):=by unfold bw;rw[List.map_set]
theorem NL {l:List Int} {i:Nat} {x:Int} (h:l[i]?=some x):(bw l)[i]?=some (.int .i64 x):=by unfold bw;rw[List.getElem?_map,h];rfl
theorem Ag {e:TypeId} {l:List Int} (h:w.ownsRow B e 1 (.slice (some ⟨g,0,none⟩) n cap) n (bw l)) {x:Int} (hj:l[j]?=some x):w.cell? ⟨g,j,none⟩=some (.int .i64 x):=by obtain ⟨h2,h3⟩:=List.getElem?_eq_some_iff.1 (NL hj);rw[bG h j h2,h3]
theorem RJ (w:World) (a b:List Int) (va vb:Value) (ha:dw w va 1 r9 a) (hb:dw w vb 1 r9 b) (hl:a.length≤1000000) (hl2:b.length≤1000000) :
 ∃v1 w1 v2 w2,(Builtin.append_ #[70,70] 70 #[.slice (some ⟨w.heap.size,0,none⟩) 0 0,va]).run prog (w.alloc (.cells #[] 3))=.ok v1 w1∧(Builtin.append_ #[70,70] 70 #[v1,vb]).run prog w1=.ok v2 w2 ∧
  w2.ownsRow w.heap.size 3 1 v2 (a.length+b.length) (bw (a++b))∧Bw w w1∧Bw w w2:=by
 obtain ⟨i0,iM,hz0,hz1,hz2⟩:=info_parts Mj;obtain ⟨pa,ca,rfl,_,_,hca,hsa⟩:=ha.src uF GQ (by decide);obtain ⟨v1,w1,r1,o1,g1⟩:=dM (P:=prog) (w.alloc (.cells #[] 3)) w.heap.size 70 70 3 i0 (.int .i64 0) 1 8 underlying70 iM hz0 hz1 hz2 rfl (by decide) _ 0 [] (World.ownsRow_made w #[] 0 aT (by unfold maxLen;omega) rfl) pa a.length ca _ (hsa.stays (ar)) hca (by unfold maxLen;omega) (by omega) (by simp);have hb1:Bw w w1:=fy (il g1) aT (fun k hk=>by simp[Value.ownBlock] at hk;omega);rw[List.nil_append,Nat.zero_add,rJ] at o1;obtain ⟨pb,cb,rfl,_,_,hcb,RK⟩:=hb.src uF GQ (by decide);obtain ⟨v2,w2,r2,o2,g2⟩:=dM (P:=prog) w1 w.heap.size 70 70 3 i0 (.int .i64 0) 1 8 underlying70 iM hz0 hz1 hz2 rfl (by decide) v1 a.length _ o1 pb b.length cb _ (RK.stays hb1) hcb (by unfold maxLen;omega) (by omega) hb1.size;refine ⟨v1,w1,v2,w2,r1,r2,?_,hb1,hb1.grown g2 hb1.size (fun k hk=>(o1.lt k hk).1)⟩;rw[rJ] at o2;unfold bw at *;rw[List.map_append];exact o2
def AP (f:Nat→Bool):List Bool:=(List.range 16).map f
theorem uO (f:Nat→Bool):(AP f).length=16:=by unfold AP;simp
theorem SQ (f:Nat→Bool) (s:Nat):(bQ (AP f)).set s (.bool true)=bQ (AP fun i=>f i || decide (i=s)):=by
 unfold bQ AP;apply List.ext_getElem?;intro i;rw[List.getElem?_set];by_cases hs:s=i
 ·subst hs
  rw[if_pos rfl];by_cases h:s<16
  ·rw[if_pos (by simpa using h),List.getElem?_map,List.getElem?_map,List.getElem?_range h];simp
  ·rw[if_neg (by simpa using h),List.getElem?_eq_none (by simpa using h)]
 ·rw[if_neg hs,List.getElem?_map,List.getElem?_map,List.getElem?_map,List.getElem?_map]
  by_cases h:i<16
  ·rw[List.getElem?_range h]
   simp only[Option.map_some];rw[decide_eq_false (fun e=>hs e.symm),Bool.or_false]
  ·rw[List.getElem?_eq_none (by simpa using h)];rfl
theorem Iu (W:World):∃w1,(Instr.makeSlice 24 (.int .i64 16) (.int .i64 16)).run prog W=.ok (.slice (some ⟨W.heap.size,0,none⟩) 16 16) w1∧w1.ownsRow W.heap.size 4 1 (.slice (some ⟨W.heap.size,0,none⟩) 16 16) 16 (bQ (AP fun _=>false))∧Below W.heap.size W w1:=by
 obtain ⟨i0,hi,hz0,hz1,hz2⟩:=info_parts qy;obtain ⟨w1,jJ,hown,hg⟩:=run_make_full (P:=prog) W W.heap.size 24 4 i0 (.bool false) 1 underlying24 hi hz0 hz1 .i64 .i64 16 (by rw[hz2];omega) (by unfold maxLen;omega) aT;refine ⟨w1,jJ,?_,aH.grown hg aT (fun k e=>by cases e)⟩;have e:(Value.bool false).cells = #[Value.bool false]:=rfl;rw[e,toList_madeCells_one] at hown;have e2:bQ (AP fun _=>false)=List.replicate 16 (Value.bool false):=by kernel_rfl
 rw[e2];exact hown
theorem OL (l:List aj) (v1:Value) (w:World) (h1:dA w v1 l):Calls prog 126 #[v1] w fun e w'=>∃v,e=.returned v∧w'.ownsRow w.heap.size 4 1 v (km l).length (bQ (km l))∧Below w.heap.size w w':=by
 have eJ:=aa (nZ l v1 w h1);obtain ⟨p,cp,rfl,a1,a2,ha⟩:=h1;have HA:=aa ha;obtain ⟨N,hN⟩:=aG l.length;rw[hN] at a1 eJ;rw[hN];have hlc:=fG (n:=N) a2;have HN:=aa hN;clear ha hN a1 a2;obtain ⟨m,hm⟩:=aG (dE l);have HM:=aa hm;rw[hm] at eJ;clear hm;go_enter func126,ntmps126;cases m with
 |false=>have HE:=aa (show km l=[] by unfold km;rw[if_neg (by rw[HM.o];simp)]);go_wp2_with (go_at_call 119;(refine eJ.o.mono ?_);rintro e w5 ⟨rfl,aR⟩;have bp:=aa aR;clear aR);go_ret;exact ⟨_,rfl,by rw[HE.o];exact World.ownsRow_nil _ _ _ _,bp⟩
 |true=>
  have HE:=aa (show km l=AP (fun s=>l.any (kg (s:Nat))) by unfold km;rw[if_pos HM.o];rfl);go_upto_region 3 with (go_at_call 119;(refine eJ.o.mono ?_);rintro e w5 ⟨rfl,aR⟩;have bp:=aa aR;clear aR);obtain ⟨w6,jJ,hrow,cV⟩:=Iu w5;obtain ⟨g,hg⟩:=aG w5.heap.size;rw[hg] at jJ hrow cV;have AQ:=aa hrow;have cU:=aa (show Below w.heap.size w w6 from bp.trans (cV.mono (by rw[← hg];exact bp.size)));have HG:=aa (show w.heap.size≤g by rw[← hg];exact bp.size);clear hrow cV hg;go_wp2_with fail;clear jJ;go_loopw [13,5,19,6] (fun i _ _ _ wr=>∃k:Nat,k≤N∧i=.int .i64 k∧wr.ownsRow g 4 1 (.slice (some ⟨g,0,none⟩) 16 16) 16 (bQ (AP fun s=>(l.take k).any (kg (s:Nat))))∧Below w.heap.size w wr) (fun i _ _ _ _=>N-(intOf i).toNat)
  case atStart=>exact ⟨0,dO,rfl,by rw[List.take_zero];exact AQ,cU⟩
  case round=>
   obtain ⟨k,hk,rfl,hrow,hb⟩:=hrel;have bU:=aa hrow;have HB:=aa hb;clear hrow hb;by_cases hlt:k<N
   case neg=>
    obtain rfl:k=N:=by omega
    have kI:=aa (show l.take k=l from List.take_of_length_le (by rw[HN.o];exact aT));go_wp2_with fail;go_ret;refine ⟨_,rfl,?_,HB⟩;have h:=bU.o;rw[kI.o] at h;rw[HE.o,uO];exact bz HG h
   case pos=>
    have fN:(k:Int)<(N:Int):=(by omega);obtain ⟨⟨a,b,c,d⟩,hs⟩:∃s,l[k]?=some s:=⟨_,List.getElem?_eq_getElem (by rw[HN.o];omega)⟩
    obtain ⟨g1,o,rfl,x1⟩:=HA.o k _ hs;obtain ⟨r0,r1,r2,r3⟩:=x1.keep (af HB);simp only at r0 r1 r2 r3;have BG:=aa (cj.1 (iw HM (List.mem_of_getElem? hs)));have si:=aa (show ∀s:Nat,(l.take (k+1)).any (kg s)=((l.take k).any (kg s) || kg s (a,b,c,d)) from fun s=>by
     rw[List.take_add_one,hs,Option.toList_some,List.any_append];simp)
    clear hs x1;obtain ⟨W2,hW2⟩:=aG (wr.alloc (.cells #[.int .i64 a,.int .i64 b,.int .i64 c,.bool d] 52));have iY:Below wr.heap.size wr W2:=by rw[← hW2];exact ar
    have CT:=aa (show aK W2 wr.heap.size [.int .i64 a,.int .i64 b,.int .i64 c,.bool d] by rw[← hW2];exact aK.new wr _ _);have mX:=aa (aL bU iY);have bS:=bh HB iY;have ZK:=aa (bU.lt g rfl).2;go_upto_region 7 with fail
    try rw[hW2]
    clear hW2 iY r0 r1 r2 r3;obtain ⟨q0,q1,q2,q3⟩:=CT.four;go_wp2_with fail;clear q0 q1 q2 q3;obtain ⟨h1,h2,h3,h4,_⟩:=BG.o
    try simp only at h1 h2 h3 h4
    obtain ⟨A,rfl⟩:∃A:Nat,a=A:=⟨a.toNat,by omega⟩
    obtain ⟨Bn,rfl⟩:∃B:Nat,b=B:=⟨b.toNat,by omega⟩
    have HAB:=aa (show 1≤Bn∧A+Bn≤16 by omega);clear h1 h2 h3 h4 BG;obtain ⟨wo,rfl⟩:∃wo,wo=wr:=⟨_,rfl⟩
    go_loopw [19,6] (fun i _ wr=>∃j:Nat,j≤Bn∧i=.int .i64 j∧wr.ownsRow g 4 1 (.slice (some ⟨g,0,none⟩) 16 16) 16 (bQ (AP fun s=>(l.take k).any (kg (s:Nat)) || decide (A≤s∧s<A+j)))∧aK wr wo.heap.size [.int .i64 A,.int .i64 Bn,.int .i64 c,.bool d]∧Below w.heap.size w wr) (fun i _ _=>Bn-(intOf i).toNat)
    case atStart=>exact ⟨0,dO,rfl,by
     have e:(fun s:Nat=>(l.take k).any (kg (s:Nat)) || decide (A≤s∧s<A+0))=(fun s:Nat=>(l.take k).any (kg (s:Nat))):=by
      funext s;rw[decide_eq_false (by omega),Bool.or_false]
     rw[e];exact mX,CT,bS⟩
    case round=>
     obtain ⟨j,hj,rfl,hrow,fI,hb⟩:=hrel;have vZ:=aa hrow;have kD:=aa fI;have dF:=aa hb;obtain ⟨q0,q1,q2,q3⟩:=fI.four;clear hrow fI hb;by_cases UD:j<Bn
     case neg=>
      obtain rfl:j=Bn:=by omega
      go_wp2_with fail;go_roundw
      case rel=>exact ⟨k+1,by omega,by go_num,by
       have e:(fun s:Nat=>(l.take (k+1)).any (kg (s:Nat)))=(fun s:Nat=>(l.take k).any (kg (s:Nat)) || decide (A≤s∧s<A+j)):=by
        funext s
        rw[si.o s];congr 1;unfold kg;simp only[decide_eq_decide];omega
       rw[e];exact vZ.o,dF.o⟩
      case measure=>simp[intOf];omega
     case pos=>
      have arQ:(j:Int)<(Bn:Int):=(by omega);have hAB:=HAB.o;have i0:(0:Int)≤(A:Int)+(j:Int):=by omega
      have i1:(A:Int)+(j:Int)<16:=(by omega);obtain ⟨b0,hb0⟩:∃b0,(AP fun s=>(l.take k).any (kg (s:Nat)) || decide (A≤s∧s<A+j))[A+j]?=some b0:=⟨_,List.getElem?_eq_getElem (by rw[uO];omega)⟩
      have c0:=bG vZ (A+j) (by unfold bQ;rw[List.length_map,uO];omega);have cf:=gj vZ (A+j);have c1:wr.cell? ⟨g,A+j,none⟩=some (.bool b0):=by rw[c0];unfold bQ;rw[List.getElem_map];obtain ⟨_,h9⟩:=List.getElem?_eq_some_iff.1 hb0;rw[h9]
      have OM:=aa (lU vZ (A+j) (.bool true) (by unfold bQ;rw[List.length_map,uO];omega));have HGN:=ZK.o;clear c0 hb0 hAB;go_wp2_with fail;go_roundw
      case rel=>exact ⟨j+1,by omega,by go_num,by
       have h:=OM.o;rw[SQ] at h;have e:(fun s:Nat=>(l.take k).any (kg (s:Nat)) || decide (A≤s∧s<A+(j+1)))=(fun i:Nat=>((l.take k).any (kg (i:Nat)) || decide (A≤i∧i<A+j)) || decide (i=A+j)):=by
        funext s
        rw[Bool.or_assoc];congr 1;rw[Bool.eq_iff_iff];simp only[Bool.or_eq_true,decide_eq_true_eq];omega
       rw[e];exact h,kD.o.far (by omega) _ _,dF.o.setCell (p:=⟨g,A+j,none⟩) HG.o _⟩
      case measure=>simp[intOf];omega
def wG (a:Int):Nat→List aj→Int
 |_,[] => -1
 |i,u::l=>if u.1=a then (i:Int) else wG a (i+1) l
theorem OO {l:List aj} (h:l[k]?=some u):wG a k (l.drop k)=if u.1=a then (k:Int) else wG a (k+1) (l.drop (k+1)):=by rw[List.drop_eq_getElem_cons (List.getElem?_eq_some_iff.1 h).1,(List.getElem?_eq_some_iff.1 h).2];rfl
theorem tM {a:Int}:∀(l:List aj) (i:Nat),(wG a i l = -1∧mh a l=0∧∀u∈l,¬u.1=a)∨∃(j:Nat) (u:aj),wG a i l=(i+j:Nat)∧l[j]?=some u∧u.1=a∧mh a l=u.2.2.1∧∀v∈l.take j,¬v.1=a
 |[],i=>.inl ⟨rfl,rfl,fun u h=>by simp at h⟩
 |u::l,i=>by
  by_cases h:u.1=a
  ·refine .inr ⟨0,u,by unfold wG;rw[if_pos h];rfl,rfl,h,by unfold mh;rw[if_pos h],fun v hv=>by simp at hv⟩
  ·rcases tM l (i+1) with ⟨h1,h2,h3⟩|⟨j,v,h1,h2,h3,h4,h5⟩
   ·refine .inl ⟨by unfold wG;rw[if_neg h];exact h1,by unfold mh;rw[if_neg h];exact h2,fun x hx=>?_⟩
    rcases List.mem_cons.1 hx with rfl|hx
    ·exact h
    ·exact h3 x hx
   ·refine .inr ⟨j+1,v,by unfold wG;rw[if_neg h,h1];congr 1;omega,by rw[List.getElem?_cons_succ];exact h2,h3,by unfold mh;rw[if_neg h];exact h4,fun x hx=>?_⟩
    rw[List.take_succ_cons,List.mem_cons] at hx;rcases hx with rfl|hx
    ·exact h
    ·exact h5 x hx
theorem OP (a b c at_:Int) (d:Bool) (B:Nat) (w:World) (hB:w.cell? ⟨B,0,none⟩=some (.int .i64 at_)):Calls prog 204 #[.agg #[.int .i64 a,.int .i64 b,.int .i64 c,.bool d],.pointer (some ⟨B,0,none⟩)] w fun e w'=>e=.returned (.bool (a==at_))∧Bw w w':=by
 obtain ⟨W2,hW2⟩:=aG (w.alloc (.cells #[.int .i64 a,.int .i64 b,.int .i64 c,.bool d] 52));have iY:Bw w W2:=by rw[← hW2];exact ar
 have CT:=aa (show aK W2 w.heap.size [.int .i64 a,.int .i64 b,.int .i64 c,.bool d] by rw[← hW2];exact aK.new w _ _);have jl:=aa iY;have h2:=ae iY hB;clear hB iY;go_enter func204,ntmps204;go_upto_region 1 with fail
 try rw[hW2]
 clear hW2;have q0:=CT.cell (j:=0) rfl;go_wp2_with fail;go_ret;exact ⟨rfl,jl⟩
theorem Iw (l:List aj) (at_:Int) (B:Nat) (v1:Value) (w:World) (h1:dA w v1 l) (hB:w.cell? ⟨B,0,none⟩=some (.int .i64 at_)):Calls prog 203 #[v1,.func (.func 204) #[] #[.pointer (some ⟨B,0,none⟩)]] w fun e w'=>e=.returned (.int .i64 (wG at_ 0 l))∧Bw w w':=by
 obtain ⟨p,cp,rfl,a1,a2,ha⟩:=h1;have HA:=aa ha;have sA:=aa (fun (a b c:Int) (d:Bool) (W:World) (hb:Bw w W)=>OP a b c at_ d B W (ae hb hB));obtain ⟨N,hN⟩:=aG l.length;rw[hN] at a1;rw[hN];have hlc:=fG (n:=N) a2;have HN:=aa hN;clear ha hN a1 a2 hB;obtain ⟨r,hr⟩:=aG (wG at_ 0 l);rw[hr];have HR:=aa hr;clear hr;go_enter func203,ntmps203;go_wp2_with fail;go_loopw [8,5] (fun i _ wr=>∃k:Nat,k≤N∧i=.int .i64 k∧wG at_ k (l.drop k)=r∧Bw w wr) (fun i _ _=>N-(intOf i).toNat)
 case atStart=>exact ⟨0,dO,rfl,by rw[List.drop_zero];exact HR,aH⟩
 case round=>
  obtain ⟨k,hk,rfl,hall,hb⟩:=hrel;have ed:=aa hall;have HB:=aa hb;clear hall hb;by_cases hlt:k<N
  case neg=>
   obtain rfl:k=N:=by omega
   have HF:=aa (show r = -1 by rw[← ed.o,List.drop_of_length_le (by rw[HN.o];exact aT)];rfl);go_wp2_with fail;go_ret;exact ⟨kH HF.symm,HB⟩
  case pos=>
   have fN:(k:Int)<(N:Int):=(by omega);obtain ⟨⟨a,b,c,d⟩,hs⟩:∃s,l[k]?=some s:=⟨_,List.getElem?_eq_getElem (by rw[HN.o];omega)⟩
   obtain ⟨g,o,rfl,x1⟩:=HA.o k _ hs;obtain ⟨r0,r1,r2,r3⟩:=x1.keep (af HB);simp only at r0 r1 r2 r3;have fX:=aa (OO (a:=at_) hs);clear hs x1;obtain ⟨bq,yA⟩:∃b,(a==at_)=b:=⟨_,rfl⟩
   have vF:=aa yA;clear yA;cases bq with
   |true=>have HF:=aa (show r=(k:Int) by rw[← ed.o,fX.o,if_pos (by have:=vF.o;simpa using this)]);go_wp2_with (go_at_call 204;(refine (sA.o _ _ _ _ _ HB.o).mono ?_);rintro e w2 ⟨rfl,hb⟩;rw[vF.o];have bS:=bh HB hb;clear hb);go_ret;exact ⟨kH HF.symm,bS⟩
   |false=>
    have HF:=aa (show wG at_ (k+1) (l.drop (k+1))=r by rw[← ed.o,fX.o,if_neg (by have:=vF.o;simpa using this)]);go_wp2_with (go_at_call 204;(refine (sA.o _ _ _ _ _ HB.o).mono ?_);rintro e w2 ⟨rfl,hb⟩;rw[vF.o];have bS:=bh HB hb;clear hb);go_roundw
    case rel=>exact ⟨k+1,by omega,by go_num,HF.o,bS.o⟩
    case measure=>simp[intOf];omega
theorem Iy (l:List aj) (at_:Int) (v1:Value) (w:World) (h1:dA w v1 l):Calls prog 171 #[v1,.int .i64 at_] w fun e w'=>e=.returned (.int .i64 (wG at_ 0 l))∧Bw w w':=by
 obtain ⟨W2,hW2⟩:=aG (w.alloc (.cells #[.int .i64 at_] 3));have iY:Bw w W2:=by rw[← hW2];exact ar
 have CT:=aa (show aK W2 w.heap.size [.int .i64 at_] by rw[← hW2];exact aK.new w _ _);have HIX:=aa (Iw l at_ w.heap.size v1 W2 (h1.keep (af iY)) CT.one);have jl:=aa iY;obtain ⟨p,cp,rfl,_⟩:=h1;clear iY;go_enter func171,ntmps171;go_upto_region 1 with fail
 try rw[hW2]
 clear hW2;go_wp2_with (go_at_call 203;(refine HIX.o.mono ?_);rintro e w3 ⟨rfl,hb⟩;have dF:=bh jl hb;clear hb);go_ret;exact ⟨rfl,dF⟩
theorem qJ {u:List Bool} {n:Int}:∀(f a:Nat) (r:Int),iV u n f a=r→0≤r→∃q:Nat,r=q∧jS u q n=true
 |0,a,r,h,h0=>by unfold iV at h;omega
 |f+1,a,r,h,h0=>by
  unfold iV at h
  split at h
  ·rename_i hf;exact ⟨a,h.symm,hf⟩
  ·exact qJ f (a+1) r h h0
theorem wH {u:List Bool} {q:Nat} {n:Int} (h:jS u q n=true):u[q]?=some false∧1≤n∧(q:Int)+n≤u.length:=by
 unfold jS at h;rw[Bool.and_eq_true,decide_eq_true_eq,List.all_eq_true] at h;obtain ⟨⟨h1,h2⟩,h3⟩:=h;refine ⟨?_,h1,by omega⟩;have hq:q<u.length:=by omega
 rw[List.getElem?_eq_getElem hq];have hm:u[q]∈(u.drop q).take n.toNat:=by rw[List.mem_iff_getElem?];refine ⟨0,?_⟩;rw[List.getElem?_take_of_lt (by omega),List.getElem?_drop,Nat.add_zero,List.getElem?_eq_getElem hq]
 have:=h3 _ hm;simp only[Bool.not_eq_true'] at this;rw[this]
theorem Db {l:List aj} {n:Int} (hm:dE l=true) (ha:gy (gD l) n=a) (h0:0≤a):(∀u∈l,¬u.1=a)∧1≤n∧a+n≤16:=by
 obtain ⟨q,rfl,hf⟩:=qJ _ _ _ ha h0;obtain ⟨h1,h2,h3⟩:=wH hf;rw[om] at h3;refine ⟨fun u hu he=>?_,h2,by omega⟩;have hq:q<16:=by omega
 unfold gD at h1;rw[List.getElem?_map,List.getElem?_range hq] at h1;simp only[Option.map_some,Option.some.injEq] at h1;rw[List.any_eq_false] at h1;refine h1 u hu ?_;have hok:=cj.1 (iw hm hu);unfold kg;exact decide_eq_true (by omega)
theorem AR {a n:Int}:∀ {l:List aj} {k:Nat},(∀u∈l,¬u.1=a)→(∀(j:Nat) u,j<k→l[j]?=some u→u.1<a)→(∀u,l[k]?=some u→a≤u.1)→k≤l.length→jn a n l=l.take k++[(a,n,1,false)]++l.drop k
 |[],k,_,_,_,hk=>by
  obtain rfl:k=0:=by simpa using hk
  rfl
 |u::l,0,hn,_,h2,_=>by have h3:=h2 u rfl;have h4:=hn u (List.mem_cons_self ..);unfold jn;rw[if_pos (by omega)];rfl
 |u::l,k+1,hn,h1,h2,hk=>by have h3:=h1 0 u (by omega) rfl;unfold jn;rw[if_neg (by omega),AR (k:=k) (fun v hv=>hn v (List.mem_cons_of_mem _ hv)) (fun j v hj hv=>h1 (j+1) v (by omega) (by rw[List.getElem?_cons_succ];exact hv)) (fun v hv=>h2 v (by rw[List.getElem?_cons_succ];exact hv)) (by simpa using hk)];rw[List.take_succ_cons,List.drop_succ_cons];rfl
theorem lC:∀(l:List aj) (i:Nat),(aI l).take (i*4)=aI (l.take i)
 |[],i=>by simp[aI]
 |u::l,0=>by simp[aI]
 |u::l,i+1=>by
  have ih:=lC l i;have e:aI (u::l)=cM u++aI l:=by unfold aI;rw[List.map_cons,List.flatten_cons]
  rw[e,List.take_succ_cons,show aI (u::l.take i)=cM u++aI (l.take i) by unfold aI;rw[List.map_cons,List.flatten_cons],← ih,List.take_append];have h4:(cM u).length=4:=rfl;rw[h4,List.take_of_length_le (by rw[h4];omega),show (i+1)*4-4=i*4 by omega]
theorem lD:∀(l:List aj) (i:Nat),(aI l).drop (i*4)=aI (l.drop i)
 |[],i=>by simp[aI]
 |u::l,0=>by simp[aI]
 |u::l,i+1=>by
  have ih:=lD l i;have e:aI (u::l)=cM u++aI l:=by unfold aI;rw[List.map_cons,List.flatten_cons]
  rw[e,List.drop_succ_cons,← ih,List.drop_append];have h4:(cM u).length=4:=rfl;rw[h4,List.drop_of_length_le (by rw[h4];omega),List.nil_append,show (i+1)*4-4=i*4 by omega]
theorem kP (a b:List aj):aI a++aI b=aI (a++b):=by unfold aI;rw[List.map_append,List.flatten_append]
theorem xV (u:aj):aI [u]=cM u:=by unfold aI;simp
theorem jg (l:List aj):∀u∈aI l,u.oneCell'=true:=by intro u hu;unfold aI at hu;obtain ⟨q,hq,hu⟩:=List.mem_flatten.1 hu;obtain ⟨x,_,rfl⟩:=List.mem_map.1 hq;unfold cM at hu;simp only[List.mem_cons,List.not_mem_nil,or_false] at hu;rcases hu with rfl|rfl|rfl|rfl <;> rfl
theorem AU:∀ {l:List aj} {e:Int},iq e l=true→∀u∈l,e≤u.1:=fun h u hu=>(zV _ _ h u hu).2
theorem SR (h:fD u=true):sH u=true:=by
 have h4:=cj.1 h;unfold sH;by_cases h5:0<u.2.2.1
 ·rw[decide_eq_true h5];rfl
 ·rw[h4.2.2.2.2.2.2 (by omega),Bool.or_true]
theorem AV {b:Int} {l:List aj} (h1:∀u∈l,¬u.1=a) (h2:∀u∈l,fD u=true):pE a b l=l:=by
 unfold pE;have e:l.map (uD a b)=l:=by
  conv=>rhs;rw[← List.map_id l]
  exact List.map_congr_left fun u hu=>by unfold uD;rw[if_neg (h1 u hu)];rfl
 rw[e,List.filter_eq_self];exact fun u hu=>SR (h2 u hu)
theorem qK:∀ {l:List aj} {e:Int} {j:Nat} {u:aj},iq e l=true→l[j]?=some u→iq (u.1+u.2.1) (l.drop (j+1))=true
 |[],_,_,_,_,h=>by simp at h
 |x::l,e,0,u,hm,h=>by simp only[List.getElem?_cons_zero,Option.some.injEq] at h;subst h;unfold iq at hm;simp only[Bool.and_eq_true] at hm;exact hm.2
 |x::l,e,j+1,u,hm,h=>by rw[List.getElem?_cons_succ] at h;unfold iq at hm;simp only[Bool.and_eq_true] at hm;rw[List.drop_succ_cons];exact qK hm.2 h
theorem SS {b:Int} {l:List aj} (hm:dE l=true) (hj:l[j]?=some u) (hu:u.1=a) (hb:∀v∈l.take j,¬v.1=a):pE a b l=l.take j++(if sH (uD a b u)=true then [uD a b u] else [])++l.drop (j+1):=by
 have hok:∀v∈l,fD v=true:=fun v hv=>iw hm hv;have hlt:=(List.getElem?_eq_some_iff.1 hj).1;have e:l=l.take j++u::l.drop (j+1):=by have h1:=List.drop_eq_getElem_cons hlt;rw[(List.getElem?_eq_some_iff.1 hj).2] at h1;rw[← h1,List.take_append_drop]
 have h2:∀v∈l.drop (j+1),¬v.1=a:=fun v hv he=>by have h3:=AU (qK hm hj) v hv;have h4:=cj.1 (hok u (List.mem_of_getElem? hj));omega
 have g1:=AV (b:=b) hb (fun v hv=>hok v (List.mem_of_mem_take hv));have g2:=AV (b:=b) h2 (fun v hv=>hok v (List.mem_of_mem_drop hv))
 conv=>lhs;rw[e]
 unfold pE at g1 g2 ⊢;rw[List.map_append,List.map_cons,List.filter_append,List.filter_cons,g1,g2]
 split <;> simp
theorem S4:(prog.info? 47).map (fun i=>(i.zero,i.size,i.bytes))=some (some (.agg #[.int .i64 0,.string ⟨#[]⟩]),2,24):=by kernel_rfl
theorem sM (p:Option Addr) (n c:Nat) (xs:List Value) (w:World) (hs:iK w p n 2 xs) (hn:n≤1000000000) :
 Calls prog 69 #[.slice p n c] w fun e w'=>∃v',e=.returned v'∧w'.ownsRow w.heap.size 47 2 v' n xs∧Bw w w':=by
 obtain ⟨hl,hnil,h1,hx⟩:=hs;cases p with
 |none=>have hq:∀w:World,(binOp .eql 23 (.slice none 0 c) (.slice none 0 0)).run prog w=.ok (.bool true) w:=fun w=>Lib.run_eql_slice_nil w 23 47 none 0 c 0 0 underlying23;obtain rfl:=hnil rfl;obtain rfl:xs=[]:=List.eq_nil_of_length_eq_zero (by rw[hl,Nat.zero_mul]);clear hnil hx h1 hl hn;go_enter func69,ntmps69;go_wp2_with fail;go_ret;exact ⟨_,rfl,World.ownsRow_nil _ _ _ _,aH⟩
 |some a=>
  have HX:=aa (hx a rfl);have HL:=aa hl;have H1:=aa h1;have HN:=aa hn;clear hnil hx h1 hl hn;have hq:∀w:World,(binOp .eql 23 (.slice (some a) n c) (.slice none 0 0)).run prog w=.ok (.bool false) w:=fun w=>Lib.run_eql_slice_nil w 23 47 (some a) n c 0 0 underlying23;obtain ⟨i0,hi,hz0,hz1,hz2⟩:=info_parts S4;have HB:=aa (((Below.refl w.heap.size w).alloc aT (.cells #[] 47)));go_enter func69,ntmps69;go_wp2_with (at_builtin;refine wpList_append_own _ rfl _ _ 23 rfl w.heap.size 47 i0 (.agg #[.int .i64 0,.string ⟨#[]⟩]) 2 24 underlying23 hi hz0 hz1 hz2 rfl (by decide) _ 0 [] rfl (World.ownsRow_made w #[] 0 aT (by unfold maxLen;omega) rfl) a n c xs rfl ?_ ?_ ?_ ?_ ?_ ?_ ?_)
  ·exact HL.o
  ·intro j u hu;exact cell_later HB (HX j u hu)
  ·exact H1.o
  ·have:=HN.o;unfold maxLen;omega
  ·have:=HN.o;omega
  ·simp
  ·intro v' w1 hown hg _
   have HO:=aa hown;have HG:=aa hg;clear hown hg;go_wp2_with fail;go_ret;exact ⟨v',rfl,by simpa using HO.o,HB.grown HG (by simp) (fun k e=>by simp[Value.ownBlock] at e;omega)⟩
def OX (B n:Nat) (v:Value) (ys:List Value) (w:World) (e:Ending) (w':World):Prop:=
 ∃v',e=.returned v'∧w'.ownsRow B 52 4 v' (n-1) ys∧w.grownBy w' v.ownBlock
abbrev AZ:Value:=.agg #[.int .i64 0,.int .i64 0,.int .i64 0,.bool false]
theorem A0 (B n i g cap:Nat) (xs:List Value) (w:World) (hown:w.ownsRow B 52 4 (.slice (some ⟨g,0,none⟩) n cap) n xs) (hx1:∀u∈xs,u.oneCell'=true) (hn:n≤1000000) (hi:i<n) :
 Calls prog 172 #[.slice (some ⟨g,0,none⟩) n cap,.int .i64 i,.int .i64 ((i:Int)+1)] w (OX B n (.slice (some ⟨g,0,none⟩) n cap) (xs.take (i*4)++xs.drop ((i+1)*4)) w):=by
 obtain ⟨cur,hg,ZP,Uc,hcm,hsz,AY⟩:=bl hown;obtain ⟨i0,iM,hz0,hz1,hz2⟩:=info_parts qM;have tZ:=hown.1;have qC:cur.toList.length=cap*4:=by simp[hsz]
 have wW:(xs.drop ((i+1)*4)).length=(n-(i+1))*4:=by rw[List.length_drop,tZ];omega
 have k8:∀j u,xs[j]?=some u→w.cell? ⟨g,j,none⟩=some u:=fun j u hu=>by have:=hown.cells (g:=g) rfl j u hu;rwa [jM] at this
 obtain ⟨A,hA⟩:∃A:Array Value,(cur.toList.take (i*i0.size)++xs.drop ((i+1)*4)++cur.toList.drop (i*i0.size+(xs.drop ((i+1)*4)).length)).toArray=A:=⟨_,rfl⟩
 have hAs:A.size=cap*4:=by rw[← hA,hz1,List.size_toArray,List.length_append,List.length_append,List.length_take,wW,List.length_drop,qC];omega
 have hAt:A.toList.take ((n-1)*4)=xs.take (i*4)++xs.drop ((i+1)*4):=by
  have e1:cur.toList.take (i*4)=xs.take (i*4):=by rw[← AY,List.take_take];congr 1;omega
  have e2:(xs.take (i*4)++xs.drop ((i+1)*4)).length=(n-1)*4:=by rw[List.length_append,List.length_take,tZ,wW];omega
  rw[← hA,hz1,e1,List.toList_toArray,List.take_append_of_le_length (by omega),List.take_of_length_le (by omega)]
 have hap:∀(ad:Addr) (ty:TypeId) (W:World) (cc:Nat),W.heap=w.heap→(n-(i+1)=0∨ad=⟨g,(i+1)*4,none⟩) →
  (Builtin.append_ #[45,45] ty #[.slice (some ⟨g,0,none⟩) i cap,.slice (some ad) (n-(i+1)) cc]).run prog W=.ok (.slice (some ⟨g,0,none⟩) (n-1) cap) (W.setRow g A):=by
  intro ad ty W cc hW had;have h:=run_append_room (P:=prog) W 45 ty 52 i0 underlying45 iM g i cap cur (by rw[hW];exact hg) ad (n-(i+1)) cc (xs.drop ((i+1)*4)) (by rw[hz1];exact wW)
   (fun j u hu=>by
    rcases had with h0|rfl
    ·have:(xs.drop ((i+1)*4)).length=0:=by rw[wW,h0,Nat.zero_mul]
     rw[List.eq_nil_of_length_eq_zero this] at hu;simp at hu
    ·rw[nA]
     have:=k8 ((i+1)*4+j) u (by rwa [List.getElem?_drop] at hu);simp only[World.cell?,hW] at this ⊢;exact this) (fun v hv=>hx1 v (List.mem_of_mem_drop hv)) (by omega) (by rw[hz1,hsz,wW];omega)
  rw[hA,show i+(n-(i+1))=n-1 by omega] at h;exact h
 have hzs:(AZ).cells.size=4:=rfl;have hzl:(Builtin.zeroCells AZ.cells 1).toList.length=4:=by rw[Array.length_toList,size_zeroCells,hzs]
 obtain ⟨A2,K3⟩:∃A2:Array Value,(A.toList.take ((n-1)*4)++(Builtin.zeroCells AZ.cells 1).toList++A.toList.drop ((n-1)*4+(Builtin.zeroCells AZ.cells 1).toList.length)).toArray=A2:=⟨_,rfl⟩
 have B1:A2.size=cap*4:=by
  have:A.toList.length=cap*4:=by simp[hAs]
  rw[← K3,List.size_toArray,List.length_append,List.length_append,List.length_take,List.length_drop,hzl,this];omega
 have IC:A2.toList.take ((n-1)*4)=xs.take (i*4)++xs.drop ((i+1)*4):=by
  have:A.toList.length=cap*4:=by simp[hAs]
  rw[← K3,List.toList_toArray,List.append_assoc,List.take_append_of_le_length (by rw[List.length_take,this];omega),List.take_take,Nat.min_self,hAt]
 have S6:∀u∈(Builtin.zeroCells AZ.cells 1).toList,u.oneCell'=true:=List.all_eq_true.1 (show ((Builtin.zeroCells AZ.cells 1).toList.all fun u=>u.oneCell')=true by kernel_rfl);have vW:∀(W:World),W.heap=(w.setRow g A).heap→∀ty cc,(Builtin.clear_ #[45] ty #[.slice (some ⟨g,(n-1)*4,none⟩) 1 cc]).run prog W=.ok (.tuple #[]) (W.setRow g A2):=by intro W hW ty cc;have h:=FE (P:=prog) W 45 ty 52 AZ g ((n-1)*4) 1 cc A 52 underlying45 (fun w=>by simp[zeroValue,typeInfo,iM,hz0]) (by rw[hW];exact setRow_heap _ _ _ _ _ _ hg) (by omega) (by rw[hzs,hAs];omega) S6;rw[K3] at h;exact h
 have Mm:=aa vW;have afj:=aa B1;have afk:=aa IC;have HG:=aa hg;have Dg:=aa (show (xs.take (i*4)++xs.drop ((i+1)*4)).length=(n-1)*4 by rw[List.length_append,List.length_take,tZ,wW];omega);have wM:=aa (And.intro ZP (And.intro (show n-1≤cap by omega) hcm));have aky:cap≤9223372036854775807:=by unfold maxLen at hcm;omega
 have hnj:¬((i:Int)=(i:Int)+1):=by omega
 have akz:(i:Int)+1≤(n:Int):=by omega
 have afh:(n:Int)≤4611686018427387904:=by omega
 have ar4:(n:Int)≤(cap:Int):=by omega
 have hn1:¬(cap=n-1):=by omega
 have ar5:((n-1:Nat):Int)≤(n:Int):=by omega
 have XN:(0:Int)≤((n-1:Nat):Int):=by omega
 have h11:n-(n-1)=1:=by omega
 have hci:¬(cap=i):=by omega
 have hic:i≤cap:=by omega
 have ar6:(i:Int)≤(cap:Int):=by omega
 have ar7:(0:Int)≤(i:Int):=by omega
 have akA:(0:Int)≤(i:Int)+1:=by omega
 have hAP:=aa hap;have hnM:(n:Int)≤1000000:=by omega
 have yT:=aa hnM;clear hnM hap vW B1 IC K3 S6 hzl hzs hAt hAs hA k8 wW qC iM hz0 hz1 hz2 tZ hg ZP hcm hsz AY hn hx1 hown;by_cases hjc:cap=i+1
 ·obtain rfl:cap=n:=by omega
  have Wk:=hAP.out ⟨g,0,none⟩ 45 w.drew 0 rfl (.inl (by omega));rw[show cap-(i+1)=0 by omega] at Wk;have hjn:(i:Int)+1=(cap:Int):=by omega
  have ar8:¬((i:Int)=(cap:Int)):=by omega
  clear akz akA hnj hjc;go_enter func172,ntmps172;go_wp2_with fail;go_region_law (refine nQ rfl (.tmp 22) (.tmp 25) 45 45 rfl _ _ (by simp[Act.eval,Act.put]) (by simp[Act.eval,Act.put]) Wk ?_);go_wp2_with fail;rw[Mm.o (w.drew.setRow g A) rfl];go_wp2_with fail;go_ret;refine ⟨.slice (some ⟨g,0,none⟩) (cap-1) cap,rfl,⟨Dg.out,.inr ⟨g,cap,A2,rfl,wM.out.1,?_,wM.out.2.1,wM.out.2.2,afj,afk⟩⟩,?_⟩
  ·exact setRow_heap _ _ _ _ _ _ (setRow_heap _ _ _ _ _ _ HG)
  ·exact aW (aW (sU (ko w _) 1) (iE _ g _)) (iE _ g _)
 ·have Wk:=hAP.out ⟨g,(i+1)*4,none⟩ 45 w.drew (cap-(i+1)) rfl (.inr rfl)
  go_enter func172,ntmps172;go_wp2_with fail;go_region_law (refine nQ rfl (.tmp 22) (.tmp 25) 45 45 rfl _ _ (by simp[Act.eval,Act.put]) (by simp[Act.eval,Act.put]) Wk ?_);go_wp2_with fail;rw[Mm.o (w.drew.setRow g A) rfl];go_wp2_with fail;go_ret;refine ⟨.slice (some ⟨g,0,none⟩) (n-1) cap,rfl,⟨Dg.out,.inr ⟨g,cap,A2,rfl,wM.out.1,?_,wM.out.2.1,wM.out.2.2,afj,afk⟩⟩,?_⟩
  ·exact setRow_heap _ _ _ _ _ _ (setRow_heap _ _ _ _ _ _ HG)
  ·exact aW (aW (sU (ko w _) 1) (iE _ g _)) (iE _ g _)
mutual
def nN:ag→Nat
 |.mk _ _ kids=>1+nL kids
def nL:List ag→Nat
 |[]=>0
 |t::ts=>nN t+nL ts
end
theorem aa2 (t:ag):1≤nN t:=by cases t;simp only[nN];omega
theorem PM (l:List ag) (hl:∀t∈l,∀m:Int,1≤m→fL t m=min m (nN t)):∀n most:Int,1≤n→n≤most→iQ l n most=min most (n+nL l):=by
 induction l with
 |nil=>intro n most h1 h2;simp only[iQ,nL];omega
 |cons a l ih=>
  intro n most h1 h2;have hp:=aa2 a;simp only[iQ,nL]
  split
  ·rename_i h
   rw[hl a (by simp) (most-n) (by omega),ih (fun t ht=>hl t (by simp[ht])) _ _ (by omega) (by omega)];push_cast;omega
  ·push_cast;omega
theorem PN (t:ag):∀m:Int,1≤m→fL t m=min m (nN t):=by
 induction t using ag.ind with
 |h ks vs kids ih=>intro m hm;simp only[fL,nN];rw[PM kids ih 1 m (by omega) hm];push_cast;omega
theorem PO (t:ag):vg t=true→(aA t).length≤30*nN t:=by
 induction t using ag.ind with
 |h ks vs kids ih=>
  intro h;simp only[vg,ue,Bool.and_eq_true,decide_eq_true_eq,List.all_eq_true] at h;have hl:∀l:List ag,(∀t∈l,(aA t).length≤30*nN t)→(bP l).length≤30*nL l:=fun l=>by
   induction l with
   |nil=>intro _;simp[nL,bP]
   |cons a l ih2=>intro hx;have h1:=hx a (by simp);have h2:=ih2 (fun t ht=>hx t (by simp[ht]));simp only[nL,bP,List.length_append];omega
  have hk:=hl kids (fun t ht=>ih t ht (by simp_all));simp only[nN,aA,List.length_append];have hz:(if kids.length=0 then ks.zip vs else []).length≤ks.length:=by
   split
   ·rw[List.length_zip];omega
   ·simp
  omega
theorem I8 {d:dx} (h:kV d=true):dK d.map:=by unfold kV pW at h;simp only[Bool.and_eq_true,decide_eq_true_eq] at h;obtain ⟨⟨_,h2⟩,h3⟩:=h;rw[PN d.map 60 (by omega)] at h3;have h4:=PO d.map h2;unfold dK;omega
theorem Cg {l:List dx} (h:kC l=true):bM l:=by unfold kC at h;simp only[Bool.and_eq_true,List.all_eq_true] at h;exact fun d hd=>I8 (h.1 d hd)
end Go.Proofs.YtbigkioechkngaaGreat
