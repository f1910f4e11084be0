/- The proof, part 13. -/
import Derived.Deep.RegionHeld3
import Derived.Test.YtbigkioechkngaaGreatQ11
import Derived.Test.YtbigkioechkngaaGreatQ7
import Derived.Test.YtbigkioechkngaaGreatProg
import Derived.Outline
import Derived.ProofKit
import Derived.Carry
set_option maxRecDepth 100000
set_option maxHeartbeats 8000000
namespace Go.Proofs.YtbigkioechkngaaGreat
open Go.RowKit
theorem wG {k:Nat} (h:k≤30):1≤2 ^ k∧2 ^ k≤1073741824:=⟨Nat.one_le_two_pow,Nat.pow_le_pow_right (n:=2) (by decide) h⟩
theorem Sa (k:Nat):(2:Int)*((2 ^ k:Nat):Int)=((2 ^ (k+1):Nat):Int):=by rw[Nat.pow_succ];omega
theorem wH (n:Nat) (h:n≤30) (w:World):Calls Tryz.prog 177 #[.int .i64 n] w fun e w'=>e=.returned (.int .i64 ((2 ^ n:Nat):Int))∧w=w':=by
 have HN:=aa h;have hni:(n:Int)≤100:=by omega
 clear h;go_enter Tryz.func177,Tryz.ntmps177;go_wp2_with fail;go_loop [3,4] (fun x i=>∃(k:Nat) (y:Int),k≤n∧i=.int .i64 k∧x=.int .i64 y∧Hid (y=((2 ^ k:Nat):Int))) (fun _ i=>n-(intOf i).toNat)
 case atStart=>exact ⟨0,1,dQ,rfl,rfl,aa rfl⟩
 case round=>
  obtain ⟨k,y,hk,rfl,rfl,hy⟩:=hrel;by_cases hlt:k<n
  ·have fO:(k:Int)<(n:Int):=by omega
   have hp:=wG (show k≤30 by have:=HN.o;omega);have hps:=Sa k;have NZ:Hid (2*y=((2 ^ (k+1):Nat):Int)):=by rw[hy.out,hps];exact aa rfl
   have Zf:wrap64 (2*y)=2*y:=by have:=hy.out;unfold wrap64;omega
   clear hp hps;go_wp2_with fail;go_round
   case rel=>exact ⟨k+1,2*y,by omega,by go_num,by rw[Zf],NZ⟩
   case measure=>simp[intOf];omega
  ·obtain rfl:k=n:=by omega
   go_wp2_with fail;go_ret;exact ⟨kP hy.out,rfl⟩
def cP (w:World) (o:Option (List Bool)) (e:Ending) (w':World):Prop:=match o with
 |none=>e=.returned (.tuple #[.slice none 0 0,.bool false])∧Bw w w'
 |some l=>∃v,e=.returned (.tuple #[v,.bool true])∧w'.ownsRow w.heap.size 4 1 v l.length (bS l)∧Bw w w'
theorem cP.no {w w':World} {o:Option (List Bool)} (h:o=none) (hb:Bw w w'):cP w o (.returned (.tuple #[.slice none 0 0,.bool false])) w':=by subst h;exact ⟨rfl,hb⟩
theorem cP.yes {w w':World} {o:Option (List Bool)} {l:List Bool} {v:Value} {n:Nat} (h:o=some l) (hn:l.length=n) (hr:w'.ownsRow w.heap.size 4 1 v n (bS l)) (hb:Bw w w'):cP w o (.returned (.tuple #[v,.bool true])) w':=by subst h;subst hn;exact ⟨v,rfl,hr,hb⟩
theorem KG (w:World) (b:List Bool) (v:Value) (h:dA w v b) (hl:b.length≤10000000) :
 ∃v' w',(Builtin.append_ #[24,24] 24 #[.slice (some ⟨w.heap.size,0,none⟩) 0 0,v]).run Tryz.prog (w.alloc (.cells #[] 4))=.ok v' w'∧w'.ownsRow w.heap.size 4 1 v' b.length (bS b)∧Bw w w':=by
 obtain ⟨i0,iP,hz0,hz1,hz2⟩:=info_parts qK;obtain ⟨p,c,rfl,hc,jq⟩:=h.src;obtain ⟨v',w',r1,r2,r3⟩:=dP (P:=Tryz.prog) (w.alloc (.cells #[] 4)) w.heap.size 24 24 4 i0 (.bool false) 1 1 Tryz.underlying24 iP hz0 hz1 hz2 rfl (by decide) _ 0 [] (World.ownsRow_made w #[] 0 aT (by unfold maxLen;omega) rfl) p b.length c (bS b) (jq.stays (aq)) hc (by unfold maxLen;omega) (by omega) (by simp);refine ⟨v',w',r1,by simpa using r2,?_⟩;exact fC (iA r3) aT (fun k hk=>by simp[Value.ownBlock] at hk;omega)
def Zj (w:World) (b:List Bool) (n wd:Nat) (out i:Value) (wr:World):Prop:=
 ∃(k:Nat) (l:List Bool),k≤wd∧i=.int .i64 ((k:Int)-1)∧l.length=b.length+(wd-k)∧wr.ownsRow w.heap.size 4 1 out l.length (bS l)∧l++bitsOf n k=b++bitsOf n wd∧Bw w wr
theorem VS {n k:Nat} {l t:List Bool} (h:l++bitsOf n (k+1)=t):(l++[n/2 ^ k%2==1])++bitsOf n k=t:=by rw[← h,bitsOf];simp
theorem uT {b:List Bool} {n wd:Int} (h:¬(0≤wd∧wd≤30∧0≤n∧n<2 ^ wd.toNat)):sQ b n wd=none:=by unfold sQ;rw[if_neg h]
theorem De {b:List Bool} {n k:Nat} (h1:k≤30) (h2:n<2 ^ k):sQ b n k=some (b++bitsOf n k):=by unfold sQ;rw[if_pos ⟨by omega,by omega,by omega,by have:((2 ^ k:Nat):Int)=(2:Int) ^ k:=(by simp);simp only[Int.toNat_natCast];omega⟩];rfl
theorem Sb {m x:Nat} (h:m≤1000000000000):((wrap64 ((m:Int)/(x:Int))).tmod 2==1)=(m/x%2==1):=by
 have h2:m/x≤m:=Nat.div_le_self _ _;have e:(m:Int)/(x:Int)=((m/x:Nat):Int):=by simp
 have e2:∀d:Nat,d≤m→wrap64 (d:Int)=(d:Int):=fun d hd=>by unfold wrap64;omega
 rw[e,e2 _ h2,show (2:Int)=((2:Nat):Int) from rfl,← Int.ofNat_tmod];rcases Nat.mod_two_eq_zero_or_one (m/x) with h|h <;> rw[h] <;> rfl
theorem MG (b:List Bool) (n wd:Int) (v:Value) (w:World) (h:dA w v b) (hl:b.length≤1000000) (hn:n≤1000000000000):Calls Tryz.prog 227 #[v,.int .i64 n,.int .i64 wd] w (cP w (sQ b n wd)):=by
 have HB:=aa h;have HL:=aa hl;have sF:=aa hn;clear hn hl;obtain ⟨p,c,rfl,_,_,_,_⟩:=h;by_cases h1:wd<0
 ·have HF:=aa (uT (b:=b) (n:=n) (wd:=wd) (by omega))
  go_enter Tryz.func227,Tryz.ntmps227;go_wp2_with fail;refine au (cP.no HF aH) ?_;simp[results,Tryz.results227,go_sem]
 by_cases h2:30<wd
 ·have HF:=aa (uT (b:=b) (n:=n) (wd:=wd) (by omega))
  go_enter Tryz.func227,Tryz.ntmps227;go_wp2_with fail;refine au (cP.no HF aH) ?_;simp[results,Tryz.results227,go_sem]
 by_cases h3:n<0
 ·have HF:=aa (uT (b:=b) (n:=n) (wd:=wd) (by omega))
  go_enter Tryz.func227,Tryz.ntmps227;go_wp2_with fail;refine au (cP.no HF aH) ?_;simp[results,Tryz.results227,go_sem]
 obtain ⟨k,rfl⟩:∃k:Nat,wd=k:=⟨wd.toNat,by omega⟩
 obtain ⟨m,rfl⟩:∃m:Nat,n=m:=⟨n.toNat,by omega⟩
 have hk:k≤30:=by omega
 have HK:=aa hk;have HPW:=aa (fun W=>wH k hk W);obtain ⟨q,hq⟩:∃q:Nat,2 ^ k=q:=⟨_,rfl⟩
 have HQ:=aa hq;have fO:(k:Int)≤30:=by omega
 clear hq hk h1 h2 h3;by_cases h4:q≤m
 ·have HF:=aa (uT (b:=b) (n:=(m:Int)) (wd:=(k:Int)) (by
   have h1:=HQ.o;have:((2 ^ k:Nat):Int)=(2:Int) ^ k:=by simp
   simp only[Int.toNat_natCast];rw[← this,h1];omega))
  have h5:decide ((m:Int)≥(q:Int))=true:=by simpa using h4
  have h6:decide ((q:Int)≤(m:Int))=true:=by simpa using h4
  have h7:decide (q≤m)=true:=by simpa using h4
  clear h4;go_enter Tryz.func227,Tryz.ntmps227;go_wp2_with (go_at_call 177;(with_reducible refine (HPW.o _).mono ?_);rintro e w' ⟨rfl,rfl⟩;rw[HQ.o]);refine au (cP.no HF aH) ?_;simp[results,Tryz.results227,go_sem]
 have VT:m<2 ^ k:=by rw[HQ.o];omega
 have HF:=aa (De (b:=b) HK VT);have HM:=aa VT;have h5:decide ((m:Int)≥(q:Int))=false:=by simp;omega
 have h6:decide ((q:Int)≤(m:Int))=false:=by simp;omega
 have h7:decide (q≤m)=false:=by simp;omega
 obtain ⟨v',w1,hrun,hrow,hb1⟩:=KG w b _ HB (by have:=HL.o;omega);have dM:=aa hrun;have bY:=aa hrow;have aZ:=aa hb1;clear h4 VT hrun hrow hb1;go_enter Tryz.func227,Tryz.ntmps227;go_wp2_with (first|(go_at_call 177;(with_reducible refine (HPW.o _).mono ?_);rintro e w' ⟨rfl,rfl⟩;rw[HQ.o])|(at_builtin;refine Lib.wpList_append_run _ rfl _ _ _ _ rfl _ _ rfl rfl _ _ dM.o ?_));clear h5 h6 h7;go_loopw [8,9] (fun out i wr=>Zj w b m k out i wr) (fun _ i _=>(intOf i+1).toNat)
 case atStart=>exact ⟨k,b,aT,rfl,by omega,bY,rfl,aZ⟩
 case round=>
  obtain ⟨j,l,hj,rfl,pL,hrow,Yb,hb⟩:=hrel;have KH:=aa pL;have UB:=aa hrow;have HBT:=aa Yb;have vX:=aa hb;clear pL hrow Yb hb;by_cases hlt:0<j
  ·obtain ⟨i,rfl⟩:∃i,j=i+1:=⟨j-1,by omega⟩
   have FI:((i+1:Nat):Int)-1=(i:Int):=(by omega);rw[FI];have Zk:i≤30:=by have:=HK.o;omega
   have hii:(i:Int)≤30:=(by omega);have Zl:=aa (fun W=>wH i Zk W);obtain ⟨x,hx⟩:=aG (2 ^ i);have HX:=aa hx;have hx0:(1:Int)≤(x:Int):=by have:=(wG Zk).1;omega
   have Zm:=aa (VS HBT);rw[hx] at Zm;have akp:=Sb (m:=m) (x:=x) (by have:=sF.o;omega);obtain ⟨y,hy⟩:=aG (m/x%2==1);rw[hy] at Zm akp;obtain ⟨g,cp,w2,Yc,cj⟩:=qL wr w.heap.size l.length _ l y UB (by have:=KH.o;have:=HL.o;have:=HK.o;omega) vX.size;have Sc:=aa Yc;have yY:=aa cj;have Vb:(0:Int)≤(m:Int):=by omega
   clear Yc cj hy FI hx Zk;go_wp2_with (first|(go_at_call 177;(with_reducible refine (Zl.o _).mono ?_);rintro e w' ⟨rfl,rfl⟩;rw[HX.o])|(at_builtin;refine Lib.wpList_append_run _ rfl _ _ _ _ rfl _ _ rfl rfl _ _ Sc.o ?_));go_roundw
   case rel=>exact ⟨i,l++[y],by omega,rfl,by rw[List.length_append,KH.o,List.length_singleton];omega,by rw[List.length_append,List.length_singleton,← qM];exact yY.row,Zm,vX.trans yY.below⟩
   case measure=>simp[intOf]
  ·obtain rfl:j=0:=by omega
   have FJ:=aa (show sQ b m k=some l by rw[HF.o];have:=HBT.o;rw[bitsOf,List.append_nil] at this;rw[this]);go_wp2_with fail;refine au (cP.yes FJ rfl UB vX) ?_;simp[results,Tryz.results227,go_sem]
theorem N9 {l:List Bool} {k:Nat} {y:Int} (h:y=((wj (l.take k):Nat):Int)) (hk:k≤30):wrap64 (2*y)=2*y∧wrap64 (2*y+1)=2*y+1:=by
 have h1:=Mx (l.take k);have h2:2 ^ (l.take k).length≤2 ^ 30:=Nat.pow_le_pow_right (by decide) (Nat.le_trans (List.length_take_le _ _) hk);have h3:(2:Nat) ^ 30=1073741824:=by decide
 unfold wrap64;omega
theorem Hc {l:List Bool} {k:Nat} {y:Int} {x:Bool} (h:y=((wj (l.take k):Nat):Int)) (hx:l[k]?=some x):2*y+(if x then 1 else 0)=((wj (l.take (k+1)):Nat):Int):=by rw[List.take_add_one,hx,Option.toList,NV,h];cases x <;> simp
theorem Zn:(Tryz.prog.info? 5).map (fun i=>(i.zero,i.size,i.bytes))=some (some (.int .u8 0),1,1):=by kernel_rfl
theorem Oa (W:World) (B n:Nat) (v:Value) (l:List UInt8) (x:UInt8) (hown:W.ownsRow B 5 1 v n (l6 l)) (hn:n≤100000000) (hB:B≤W.heap.size) :
 ∃g cap w2,(Builtin.append_ #[112,112] 112 #[v,.slice (some ⟨W.heap.size,0,none⟩) 1 1]).run Tryz.prog (W.alloc (.cells #[.int .u8 (x.toNat:Nat)] 5))=.ok (.slice (some ⟨g,0,none⟩) (n+1) cap) w2∧ky W w2 B n 5 1 v (l6 l) [.int .u8 (x.toNat:Nat)] g cap:=by
 obtain ⟨i0,iP,hz0,hz1,hz2⟩:=info_parts Zn;exact eY 112 5 i0 _ 1 1 Tryz.underlying112 iP hz0 hz1 hz2 rfl (by decide) (by decide) W B n v (l6 l) [.int .u8 (x.toNat:Nat)] hown rfl (by intro u hu;simp only[List.mem_cons,List.not_mem_nil,or_false] at hu;subst hu;rfl) hn hB
def nQ (b:List Bool) (a:Nat):List Bool:=((b.drop a)++List.replicate 8 false).take 8
theorem Ay (b:List Bool) (a:Nat):(nQ b a).length=8:=by unfold nQ;simp
theorem Ob {b:List Bool} {a j:Nat} (h:j<8):(nQ b a)[j]?=some (if a+j<b.length then b[a+j]?.getD false else false):=by
 unfold nQ;rw[List.getElem?_take_of_lt h];by_cases hl:a+j<b.length
 ·rw[if_pos hl,List.getElem?_append_left (by rw[List.length_drop];omega),List.getElem?_drop,List.getElem?_eq_getElem hl];rfl
 ·rw[if_neg hl,List.getElem?_append_right (by rw[List.length_drop];omega),List.getElem?_replicate,if_pos (by rw[List.length_drop];omega)]
theorem Oc {b:List Bool} {k m:Nat} (h:k<m):tI (m-k) (b.drop (8*k))=UInt8.ofNat (wj (nQ b (8*k)))::tI (m-(k+1)) (b.drop (8*(k+1))):=by rw[show m-k=(m-(k+1))+1 by omega,tI,List.drop_drop];rfl
def Zo (P:List Bool) (n i:Value):Prop:=∃(j:Nat) (y:Int),j≤8∧i=.int .i64 j∧n=.int .i64 y∧Hid (y=((wj (P.take j):Nat):Int))
def VU (w:World) (b:List Bool) (t:List UInt8) (m:Nat) (v i:Value) (wr:World):Prop:=
 ∃(k:Nat) (pre:List UInt8) (g cap:Nat),k≤m∧i=.int .i64 ((8*k:Nat):Int)∧v=.slice (some ⟨g,0,none⟩) k cap∧pre.length=k∧wr.ownsRow w.heap.size 5 1 v k (l6 pre)∧pre++tI (m-k) (b.drop (8*k))=t∧Bw w wr
theorem MH {n:Nat} (h:n<256):((UInt8.ofNat n).toNat:Int)=(n:Int):=by simp;omega
theorem Hd (b:List Bool) (v:Value) (w:World) (h:dA w v b) (hl:b.length≤1000000):Calls Tryz.prog 184 #[v] w fun e w'=>e=.returned (.string ⟨(GL b).toArray⟩)∧Bw w w':=by
 obtain ⟨p,c,rfl,hc1,hc2,_,ha⟩:=h;have HA:=aa ha;obtain ⟨N,hN⟩:=aG b.length;rw[hN] at hc1 hl;rw[hN];have HN:=aa hN;have hlN:(N:Int)≤1000000:=by omega
 obtain ⟨m,hm⟩:=aG ((N+7)/8);have HM:=aa hm;obtain ⟨t,ht⟩:=aG (GL b);rw[ht];have HT:=aa ht;have bY:=aa (World.ownsRow_made w #[] 0 (Nat.le_refl w.heap.size) (by unfold maxLen;omega) rfl:(w.alloc (.cells #[] 5)).ownsRow w.heap.size 5 1 (.slice (some ⟨w.heap.size,0,none⟩) 0 0) 0 []);clear ha hN hl hc1 hc2 hm ht;go_enter Tryz.func184,Tryz.ntmps184;go_wp2_with fail;go_loopw [3,4,5,6] (fun v i _ _ wr=>VU w b t m v i wr) (fun _ i _ _ _=>m*8-(intOf i).toNat)
 case atStart=>exact ⟨0,[],_,_,dQ,rfl,rfl,rfl,bY,by have:=HT.o;unfold GL at this;rw[HN.o,HM.o] at this;rw[← this];rfl,aq⟩
 case round=>
  obtain ⟨k,pre,gr,cr,hk,rfl,rfl,hpl,hrow,hpk,hb⟩:=hrel;have VV:=aa hpl;have HR:=aa hrow;have HPK:=aa hpk;have HB:=aa hb;clear hpl hrow hpk hb bY;obtain ⟨a,ha⟩:=aG (8*k);rw[ha];have XN:=aa ha;by_cases hlt:a<N
  ·have hai:(a:Int)<(N:Int):=by omega
   have hkm:k<m:=by have:=HM.o;omega
   have fS:=aa (Oc (b:=b) hkm);rw[ha] at fS;clear ha;go_wp2_with fail;go_loop [5,6] (fun n i=>Zo (nQ b a) n i) (fun _ i=>8-(intOf i).toNat)
   case atStart=>exact ⟨0,0,by omega,rfl,rfl,aa (by simp[wj])⟩
   case round=>
    obtain ⟨j,y,hj,rfl,rfl,hy⟩:=hrel;by_cases jh:j<8
    ·have FI:(j:Int)<8:=by omega
     obtain ⟨q,hq⟩:∃q:Nat,a+j=q:=⟨_,rfl⟩
     have hqi:(a:Int)+(j:Int)=(q:Int):=(by omega);have HX:=aa (Ob (b:=b) (a:=a) jh);rw[hq,HN.o] at HX;obtain ⟨w1,w2⟩:=N9 hy.out (show j≤30 by omega);have HWQ:=aa hqi;by_cases hqN:q<N
     ·have akq:(q:Int)<(N:Int):=by omega
      obtain ⟨x,hx⟩:=fy (l:=b) (k:=q) (by rw[HN.o];omega);obtain ⟨g,o,rfl,r0⟩:=HA.o q x hx;replace r0:=ae HB r0;have HV:=aa (Hc hy.out (show (nQ b a)[j]?=some x by rw[HX.o,if_pos hqN,hx];rfl));have hd:decide ((a:Int)+(j:Int)<(N:Int))=true:=by simp;omega
      clear hx hq;cases x
      all_goals
       go_wp2_with fail;go_round
       case rel=>refine ⟨j+1,_,by omega,by go_num,?_,aa HV.o⟩;simp[w1,w2]
       case measure=>simp[intOf];omega
     ·have akq:¬(q:Int)<(N:Int):=by omega
      have HV:=aa (Hc hy.out (show (nQ b a)[j]?=some false by rw[HX.o,if_neg hqN]));have hd:decide ((a:Int)+(j:Int)<(N:Int))=false:=by simp;omega
      clear hq;go_wp2_with fail;go_round
      case rel=>refine ⟨j+1,_,by omega,by go_num,?_,aa HV.o⟩;simp[w1]
      case measure=>simp[intOf];omega
    ·obtain rfl:j=8:=by omega
     obtain ⟨z,hz⟩:=aG (wj (nQ b a));have Sd:z<256:=by rw[← hz];have:=Mx (nQ b a);rw[Ay] at this;exact this
     have hyz:y=(z:Int):=by have:=hy.out;rw[List.take_of_length_le (by rw[Ay];exact aT),hz] at this;exact this
     subst hyz;rw[hz] at fS;have HZ:=aa (MH Sd);obtain ⟨g,cp,w2,hrun,cj⟩:=Oa wr w.heap.size k _ pre (UInt8.ofNat z) HR (by have:=HM.o;omega) HB.size;rw[MH Sd] at hrun;have dM:=aa hrun;have yY:=aa cj;have hz1:(0:Int)≤(z:Int):=by omega
     have hz2:(z:Int)≤255:=(by omega);have hz3:(z:Int)%256=(z:Int):=by omega
     clear hrun cj hz Sd hy jh;go_wp2_with (at_builtin;refine Lib.wpList_append_run _ rfl _ _ _ _ rfl _ _ rfl rfl _ _ dM.o ?_);go_roundw
     case rel=>
      refine ⟨k+1,pre++[UInt8.ofNat z],_,_,hkm,?_,rfl,by rw[List.length_append,VV.o];rfl,?_,?_,HB.trans yY.below⟩
      ·have:=XN.o;congr 1;omega
      ·rw[← Gb];exact yY.row
      ·rw[← HPK.o,XN.o,fS.o];simp
     case measure=>have:=XN.o;simp[intOf];omega
  ·have HE:=aa (show pre=t by
    have:m-k=0:=by have:=HM.o;omega
    have h2:=HPK.o;rw[this,tI,List.append_nil] at h2;exact h2)
   have htx:(convert 112 9 (.slice (some ⟨gr,0,none⟩) k cr)).run Tryz.prog wr=.ok (.string ⟨t.toArray⟩) wr:=by
    have h:=Eo (P:=Tryz.prog) (w:=wr) (B:=w.heap.size) (g:=gr) (cap:=cr) (l:=pre) Tryz.underlying112 Tryz.underlying5 Tryz.underlying9 (by rw[VV.o];exact HR)
    rwa [VV.o,HE.o] at h
   have KD:=aa HB.o;clear ha;go_wp2_with fail;go_ret;exact ⟨rfl,KD⟩
def dV (x:dX×Value):List Value:=[.int .i64 x.1.wt,.int .i64 x.1.num,x.2]
theorem pg (x:dX×Value):(dV x).length=3:=rfl
theorem He {l:List dX} {n k p:Nat} (h:k<n):o8 l (n-k) k p=o8 l (n-(k+1)) (k+1) (if pO (qR l k) (qR l p)=true then k else p):=by rw[show n-k=(n-(k+1))+1 by omega,o8]
def adZ (w:World) (l:List dX) (n:Nat) (p i:Value) (wr:World):Prop:=
 ∃k q:Nat,1≤k∧k≤n∧q<n∧i=.int .i64 k∧p=.int .i64 q∧cY l=o8 l (n-k) k q∧Bw w wr
theorem Df (xs:List (dX×Value)) (v1:Value) (w:World) (h1:dx w v1 3 dV xs) (hl:1≤xs.length) (hl2:xs.length≤1000):Calls Tryz.prog 231 #[v1] w fun e w'=>e=.returned (.int .i64 ((cY (xs.map Prod.fst):Nat):Int))∧Bw w w':=by
 obtain ⟨p,c,rfl,hc1,hc2,_,ha⟩:=h1;have HA:=aa ha;obtain ⟨N,hN⟩:=aG xs.length;rw[hN] at hc1 hl hl2;rw[hN];have HN:=aa hN;obtain ⟨l,hlx⟩:=aG (xs.map Prod.fst);rw[hlx];have rP:=aa (show l.length=N by rw[← hlx,List.length_map,hN]);have Kl:=aa (show ∀i x,xs[i]?=some x→qR l i=x.1 from fun i x hx=>by unfold qR;rw[← hlx,List.getElem?_map,hx];rfl);have b1:(N:Int)≤1000:=by omega
 clear ha hN hc1 hc2 hlx;go_enter Tryz.func231,Tryz.ntmps231;go_wp2_with fail;go_loopw [3,4] (fun p i wr=>adZ w l N p i wr) (fun _ i _=>N-(intOf i).toNat)
 case atStart=>exact ⟨1,0,aT,hl,hl,rfl,rfl,by unfold cY;rw[rP.o],aH⟩
 case round=>
  obtain ⟨k,q,Es,hk,hq,rfl,rfl,hle,hb⟩:=hrel;have ou:=aa hle;have HB:=aa hb;clear hle hb;by_cases hlt:k<N
  ·have fO:(k:Int)<(N:Int):=by omega
   have hqi:(q:Int)<(N:Int):=(by omega);have k0:(0:Int)≤(k:Int):=by omega
   have q0:(0:Int)≤(q:Int):=(by omega);obtain ⟨⟨⟨wi,ni,ii⟩,ri⟩,hs⟩:∃s,xs[k]?=some s:=⟨_,List.getElem?_eq_getElem (by rw[HN.o];exact hlt)⟩
   obtain ⟨⟨⟨wa,na,ia⟩,ra⟩,hs2⟩:∃s,xs[q]?=some s:=⟨_,List.getElem?_eq_getElem (by rw[HN.o];exact hq)⟩
   obtain ⟨g,o,rfl,hc⟩:=HA.o k _ hs;obtain ⟨g',o',e,hc'⟩:=HA.o q _ hs2;cases e;have r0:=ae HB (hc 0 _ rfl);have r1:=ae HB (hc 1 _ rfl);have s0:=ae HB (hc' 0 _ rfl);have s1:=ae HB (hc' 1 _ rfl);replace r0:wr.cell? ⟨g,o+k*3,none⟩=some (.int .i64 wi):=r0;replace r1:wr.cell? ⟨g,o+k*3+1,none⟩=some (.int .i64 ni):=r1;replace s0:wr.cell? ⟨g,o+q*3,none⟩=some (.int .i64 wa):=s0;replace s1:wr.cell? ⟨g,o+q*3+1,none⟩=some (.int .i64 na):=s1;have fS:=aa (He (l:=l) (p:=q) hlt);rw[Kl.o _ _ hs,Kl.o _ _ hs2] at fS;clear hc hc' hs hs2;have oq:(wi<wa)∨(¬wi<wa∧¬wi=wa)∨(¬wi<wa∧wi=wa∧ni<na)∨(¬wi<wa∧wi=wa∧¬ni<na):=by omega
   rcases oq with c1|⟨c1,c2⟩|⟨c1,rfl,c3⟩|⟨c1,rfl,c3⟩
   ·have JR:=aa (show pO ⟨wi,ni,ii⟩ ⟨wa,na,ia⟩=true by unfold pO;simp[c1])
    have d1:decide (wi<wa)=true:=(by simp[c1]);clear c1;go_wp2_with fail;go_quiet (fail);go_wp2_with fail;go_roundw
    case rel=>exact ⟨k+1,k,by omega,by omega,hlt,by go_num,rfl,by rw[ou.o,fS.o,if_pos JR.o],ay HB.o _⟩
    case measure=>simp[intOf];omega
   ·have JR:=aa (show pO ⟨wi,ni,ii⟩ ⟨wa,na,ia⟩=false by unfold pO;simp[c1,c2])
    have d1:decide (wi<wa)=false:=(by simp[c1]);have d2:(wi==wa)=false:=by simp[c2]
    clear c1 c2;go_wp2_with fail;go_quiet (fail);go_wp2_with fail;go_roundw
    case rel=>exact ⟨k+1,q,by omega,by omega,hq,by go_num,rfl,by rw[ou.o,fS.o,if_neg (by rw[JR.o];simp)],ay HB.o _⟩
    case measure=>simp[intOf];omega
   ·have JR:=aa (show pO ⟨wi,ni,ii⟩ ⟨wi,na,ia⟩=true by unfold pO;simp[c3])
    have d1:decide (wi<wi)=false:=(by simp);have d2:(wi==wi)=true:=by simp
    have d3:decide (ni<na)=true:=(by simp[c3]);clear c1 c3;go_wp2_with fail;go_quiet (fail);go_wp2_with fail;go_roundw
    case rel=>exact ⟨k+1,k,by omega,by omega,hlt,by go_num,rfl,by rw[ou.o,fS.o,if_pos JR.o],ay HB.o _⟩
    case measure=>simp[intOf];omega
   ·have JR:=aa (show pO ⟨wi,ni,ii⟩ ⟨wi,na,ia⟩=false by unfold pO;simp[c3])
    have d1:decide (wi<wi)=false:=(by simp);have d2:(wi==wi)=true:=by simp
    have d3:decide (ni<na)=false:=(by simp[c3]);clear c1 c3;go_wp2_with fail;go_quiet (fail);go_wp2_with fail;go_roundw
    case rel=>exact ⟨k+1,q,by omega,by omega,hq,by go_num,rfl,by rw[ou.o,fS.o,if_neg (by rw[JR.o];simp)],ay HB.o _⟩
    case measure=>simp[intOf];omega
  ·obtain rfl:k=N:=by omega
   have HF:=aa (show cY l=q by rw[ou.o,Nat.sub_self];rfl);go_wp2_with fail;go_ret;exact ⟨kP (by rw[HF.o]),HB⟩
theorem MI:(Tryz.prog.info? 283).map (fun i=>(i.zero,i.size,i.bytes))=some (some (.agg #[.int .i64 0,.int .i64 0,.slice none 0 0]),3,40):=by kernel_rfl
theorem Hf {w:World} {g o n:Nat} {rows:List (List Value)} {k f m:Nat} (h:iN w (some ⟨g,o,none⟩) n k rows.flatten) (ha:nJ k rows) (hn:rows.length=n) (hm:f+m≤n):iN w (some ⟨g,o+f*k,none⟩) m k ((rows.drop f).take m).flatten:=by
 refine ⟨?_,(fun e=>by cases e),?_,?_⟩
 ·rw[xC (fun x hx=>ha x (List.mem_of_mem_drop (List.mem_of_mem_take hx))),List.length_take,List.length_drop,hn,Nat.min_eq_left (by omega)]
 ·intro u hu
  obtain ⟨q,hq,hu⟩:=List.mem_flatten.1 hu;exact h.2.2.1 u (List.mem_flatten.2 ⟨q,List.mem_of_mem_drop (List.mem_of_mem_take hq),hu⟩)
 ·intro a e j u hj
  cases e;rw[← CF m (fun x hx=>ha x (List.mem_of_mem_drop hx)),← CG f ha] at hj;have hj1:j<m*k:=by have:=(List.getElem?_eq_some_iff.1 hj).1;rw[List.length_take] at this;omega
  rw[List.getElem?_take_of_lt hj1,List.getElem?_drop] at hj;have:=h.2.2.2 _ rfl _ _ hj;rw[nI] at this ⊢;rw[Nat.add_assoc];exact this
theorem xY (g o n c p:Nat) (rows:List (List Value)) (w:World) (jq:iN w (some ⟨g,o,none⟩) n 3 rows.flatten) (hall:nJ 3 rows) (hlen:rows.length=n) (hp:p<n) (UE:n≤c) (hc:c≤maxLen) (hn:n≤1000) :
 Calls Tryz.prog 232 #[.slice (some ⟨g,o,none⟩) n c,.int .i64 p] w fun e w'=>∃v',e=.returned v'∧w'.ownsRow w.heap.size 283 3 v' (n-1) (rows.eraseIdx p).flatten∧Bw w w':=by
 obtain ⟨i0,hi,hz0,hz1,hz2⟩:=info_parts MI;have s1:=(Hf (f:=0) (m:=p) jq hall hlen (by omega)).stays (aH.alloc aT (.cells #[] 283));rw[Nat.zero_mul,Nat.add_zero,List.drop_zero] at s1;obtain ⟨v1,w1,r1,o1,g1⟩:=dP (P:=Tryz.prog) (w.alloc (.cells #[] 283)) w.heap.size 281 281 283 i0 (.agg #[.int .i64 0,.int .i64 0,.slice none 0 0]) 3 40 Tryz.underlying281 hi hz0 hz1 hz2 rfl (by decide) _ 0 [] (World.ownsRow_made w #[] 0 aT (by unfold maxLen;omega) rfl) _ p c _ s1 (fun e=>by cases e) (by unfold maxLen;omega) (by omega) (by simp);have hb1:Bw w w1:=fC (iA g1) aT (fun k hk=>by simp[Value.ownBlock] at hk;omega);rw[List.nil_append,Nat.zero_add] at o1;obtain ⟨qo,hqo⟩:=aG (if c=p+1 then o else o+(p+1)*3);have s2:iN w1 (some ⟨g,qo,none⟩) (n-(p+1)) 3 (rows.drop (p+1)).flatten:=by
  have h2:=Hf (f:=p+1) (m:=n-(p+1)) jq hall hlen (by omega);rw[List.take_of_length_le (by rw[List.length_drop];omega)] at h2;refine iN.stays ?_ hb1;rw[← hqo];by_cases e:c=p+1
  ·rw[if_pos e]
   have e0:n-(p+1)=0:=(by omega);rw[e0] at h2 ⊢;refine ⟨h2.1,(fun e=>by cases e),h2.2.2.1,fun a ha j u hj=>?_⟩;rw[List.eq_nil_of_length_eq_zero (show (rows.drop (p+1)).flatten.length=0 by rw[h2.1])] at hj;simp at hj
  ·rw[if_neg e];exact h2
 obtain ⟨v2,w2,r2,o2,g2⟩:=dP (P:=Tryz.prog) w1 w.heap.size 281 281 283 i0 (.agg #[.int .i64 0,.int .i64 0,.slice none 0 0]) 3 40 Tryz.underlying281 hi hz0 hz1 hz2 rfl (by decide) v1 p _ o1 _ (n-(p+1)) (c-(p+1)) _ s2 (fun e=>by cases e) (by unfold maxLen;omega) (by omega) hb1.size;have hb2:Bw w w2:=hb1.grown g2 hb1.size (fun k hk=>(o1.lt k hk).1);have e1:p+(n-(p+1))=n-1:=by omega
 rw[e1] at o2;have HO:=aa (show w2.ownsRow w.heap.size 283 3 v2 (n-1) (rows.eraseIdx p).flatten by rw[List.eraseIdx_eq_take_drop_succ,List.flatten_append];exact o2);have Ck:=aa r1;have js:=aa r2;have bU:=aa hb2;have p0:(p:Int)≤(c:Int):=by omega
 have p1:(p:Int)+1≤(n:Int):=by omega
 have p2:(n:Int)≤1000:=by omega
 have p3:(n:Int)≤(c:Int):=by omega
 have hw:IntKind.i64.wrap ((p:Int)+1)=(p:Int)+1:=by rw[IntKind.wrap_i64];omega
 clear r1 r2 o1 o2 g1 g2 hb1 hb2 s1 s2 jq hall hlen e1 hi hz0 hz1 hz2;by_cases e:c=p+1
 ·rw[if_pos e] at hqo
  subst hqo;obtain rfl:n=p+1:=by omega
  subst e;rw[Nat.sub_self] at js;go_enter Tryz.func232,Tryz.ntmps232;go_upto_region 2 with (at_builtin;refine Lib.wpList_append_run _ rfl _ _ _ _ rfl _ _ rfl rfl _ _ Ck.o ?_);go_wp2_with (at_builtin;go_loud (refine Lib.wpList_append_run _ rfl _ _ _ _ rfl _ _ rfl rfl _ _ js.o ?_));go_ret;exact ⟨_,rfl,HO,bU⟩
 ·rw[if_neg e] at hqo
  subst hqo;have HE:=aa e;go_enter Tryz.func232,Tryz.ntmps232;go_upto_region 2 with (at_builtin;refine Lib.wpList_append_run _ rfl _ _ _ _ rfl _ _ rfl rfl _ _ Ck.o ?_);go_wp2_with (at_builtin;refine Lib.wpList_append_run _ rfl _ _ _ _ rfl _ _ rfl rfl _ _ js.o ?_);go_ret;exact ⟨_,rfl,HO,bU⟩
def sI (x:Int):List Value:=[.int .i64 x]
theorem uU (x:Int):(sI x).length=1:=rfl
theorem Hg (x:Int):∀u∈sI x,u.oneCell'=true:=by intro u hu;unfold sI at hu;simp only[List.mem_singleton] at hu;subst hu;rfl
theorem rW (l:List Int):bn sI l=bB l:=by
 unfold bn bB
 induction l with
 |nil=>rfl
 |cons a l ih=>rw[List.map_cons,List.flatten_cons,ih];rfl
theorem oC {α:Type} {W:World} {B:Nat} {e:TypeId} {v:Value} {n k:Nat} {f:α→List Value} {l:List α} {F:Nat→Prop} (hf:∀x,(f x).length=k) (hn:l.length=n) (h:W.ownsRow B e k v n (bn f l)) (hF:∀b,v.ownBlock=some b→F b):dx (mask F W) v k f l:=by obtain ⟨p,c,h1,h2,h3,h5,h4⟩:=kz hf hn h;refine ⟨p,c,h1,h2,h3,h5,fun i x hx=>?_⟩;obtain ⟨g,o,e1,e2⟩:=h4 i x hx;exact ⟨g,o,e1,fun j u hj=>ar.2 ⟨hF g (by rw[h1,e1];rfl),e2 j u hj⟩⟩
def EN (vo vl:Value):Nat→Prop:=fun q=>some q≠vo.ownBlock∧some q≠vl.ownBlock
def dC (W:World) (B:Nat) (vo vl:Value) (n:Nat) (l:List dX):Prop:=
 ∃xs:List (dX×Value),xs.map Prod.fst=l∧xs.length=n∧W.ownsRow B 283 3 vl n (bn dV xs)∧∀x∈xs,dx (mask (EN vo vl) W) x.2 1 sI x.1.ins
theorem dC.move {W W':World} {B n:Nat} {vo vo' vl:Value} {l:List dX} (h:dC W B vo vl n l) (hrow:∀xs,W.ownsRow B 283 3 vl n xs→W'.ownsRow B 283 3 vl n xs)
 (hc:∀a u,W.cell? a=some u→some a.block≠vo.ownBlock→some a.block≠vl.ownBlock→W'.cell? a=some u) (hv:vo'.ownBlock=vo.ownBlock∨∀b,vo'.ownBlock=some b→W.heap.size≤b):dC W' B vo' vl n l:=by
 obtain ⟨xs,h1,h2,h3,h4⟩:=h;refine ⟨xs,h1,h2,hrow _ h3,fun x hx=>(h4 x hx).keep (bI fun a u hF hu=>⟨⟨?_,hF.2⟩,hc a u hu hF.1 hF.2⟩)⟩;rcases hv with e|e
 ·rw[e];exact hF.1
 ·intro e2
  have:=e _ e2.symm;have:=World.block_lt_of_cell? _ _ hu;omega
theorem dC.below {W W':World} {B n:Nat} {vo vl:Value} {l:List dX} (h:dC W B vo vl n l) (hb:Bw W W'):dC W' B vo vl n l:=
 h.move (fun _ hx=>aM hx hb) (fun _ _ hu _ _=>ae hb hu) (.inl rfl)
theorem dC.out {W W':World} {B n:Nat} {vo vo' vl:Value} {l:List dX} (h:dC W B vo vl n l) (hg:W.grownBy W' vo.ownBlock) (hap:eD vl vo) (hv:vo'.ownBlock=vo.ownBlock∨∀b,vo'.ownBlock=some b→W.heap.size≤b):dC W' B vo' vl n l:=
 h.move (fun _ hx=>hx.kept hg hap) (fun _ _ hu h1 _=>hg.cell hu h1) hv
theorem dC.len {W:World} {B n:Nat} {vo vl:Value} {l:List dX} (h:dC W B vo vl n l):l.length=n:=by obtain ⟨xs,h1,h2,_⟩:=h;rw[← h1,List.length_map,h2]
theorem dC.push {W w2:World} {B n g cap:Nat} {vo vl:Value} {l:List dX} {xs:List (dX×Value)} {t:dX} {r:Value} (h1:xs.map Prod.fst=l) (h4:∀x∈xs,dx (mask (EN vo vl) W) x.2 1 sI x.1.ins) (hr:dx (mask (EN vo vl) W) r 1 sI t.ins)
 (hp:ky W w2 B n 283 3 vl (bn dV xs) (dV (t,r)) g cap) (hn:xs.length=n):dC w2 B vo (.slice (some ⟨g,0,none⟩) (n+1) cap) (n+1) (l++[t]):=by
 refine ⟨xs++[(t,r)],by rw[List.map_append,h1];rfl,by rw[List.length_append,hn];rfl,by rw[← fF];exact hp.row,fun x hx=>?_⟩;have key:dx (mask (EN vo vl) W) x.2 1 sI x.1.ins:=by
  rcases List.mem_append.1 hx with hx|hx
  ·exact h4 x hx
  ·simp only[List.mem_singleton] at hx;subst hx;exact hr
 refine key.keep (bI fun a u hF hu=>⟨⟨hF.1,?_⟩,hp.cells a u hu hF.2⟩);rcases hp.at_ with e|e
 ·rw[e];exact hF.2
 ·intro e2
  have:=World.block_lt_of_cell? _ _ hu;simp only[Value.ownBlock,Option.some.injEq] at e2;omega
theorem MJ:(Tryz.prog.info? 3).map (fun i=>(i.zero,i.size,i.bytes))=some (some (.int .i64 0),1,8):=by kernel_rfl
theorem xZ (W:World) (B n:Nat) (v:Value) (l:List Int) (x:Int) (hown:W.ownsRow B 3 1 v n (bB l)) (hn:n≤100000000) (hB:B≤W.heap.size) :
 ∃g cap w2,(Builtin.append_ #[70,70] 70 #[v,.slice (some ⟨W.heap.size,0,none⟩) 1 1]).run Tryz.prog (W.alloc (.cells #[.int .i64 x] 3))=.ok (.slice (some ⟨g,0,none⟩) (n+1) cap) w2∧ky W w2 B n 3 1 v (bB l) [.int .i64 x] g cap:=by
 obtain ⟨i0,iP,hz0,hz1,hz2⟩:=info_parts MJ;exact eY 70 3 i0 _ 1 8 Tryz.underlying70 iP hz0 hz1 hz2 rfl (by decide) (by decide) W B n v (bB l) [.int .i64 x] hown rfl (by intro u hu;simp only[List.mem_cons,List.not_mem_nil,or_false] at hu;subst hu;rfl) hn hB
theorem Az (l:List Int) (x:Int):bB l++[.int .i64 x]=bB (l++[x]):=by unfold bB;rw[List.map_append];rfl
theorem AA (W:World) (B n:Nat) (v:Value) (xs:List (dX×Value)) (a b:Int) (r:Value) (hr:r.oneCell'=true) (ins:List Int) (hown:W.ownsRow B 283 3 v n (bn dV xs)) (hn:n≤100000000) (hB:B≤W.heap.size) :
 ∃g cap w2,(Builtin.append_ #[281,281] 281 #[v,.slice (some ⟨W.heap.size,0,none⟩) 1 1]).run Tryz.prog (W.alloc (.cells #[.int .i64 a,.int .i64 b,r] 283))=.ok (.slice (some ⟨g,0,none⟩) (n+1) cap) w2∧ky W w2 B n 283 3 v (bn dV xs) (dV (⟨a,b,ins⟩,r)) g cap:=by
 obtain ⟨i0,iP,hz0,hz1,hz2⟩:=info_parts MI;exact eY 281 283 i0 _ 3 40 Tryz.underlying281 iP hz0 hz1 hz2 rfl (by decide) (by decide) W B n v (bn dV xs) (dV (⟨a,b,ins⟩,r)) hown rfl (by intro u hu;unfold dV at hu;simp only[List.mem_cons,List.not_mem_nil,or_false] at hu;rcases hu with rfl|rfl|rfl;rfl;rfl;exact hr) hn hB
theorem ky.slice {W w2:World} {B n:Nat} {E:TypeId} {k:Nat} {v:Value} {xs news:List Value} {g cap:Nat} (h:ky W w2 B n E k v xs news g cap):(Value.slice (some ⟨g,0,none⟩) (n+1) cap).ownBlock=v.ownBlock∨∀b,(Value.slice (some ⟨g,0,none⟩) (n+1) cap).ownBlock=some b→W.heap.size≤b:=by
 rcases h.at_ with e|e
 ·exact .inl e
 ·refine .inr fun b hb=>?_
  simp only[Value.ownBlock,Option.some.injEq] at hb;omega
theorem dC.cell {W:World} {B n g cap:Nat} {vo:Value} {l:List dX} (h:dC W B vo (.slice (some ⟨g,0,none⟩) n cap) n l) {i:Nat} {t:dX} (ht:l[i]?=some t) :
 ∃r,W.cell? ⟨g,i*3,none⟩=some (.int .i64 t.wt)∧W.cell? ⟨g,i*3+1,none⟩=some (.int .i64 t.num)∧W.cell? ⟨g,i*3+2,none⟩=some r∧dx (mask (EN vo (.slice (some ⟨g,0,none⟩) n cap)) W) r 1 sI t.ins:=by
 obtain ⟨xs,h1,h2,h3,h4⟩:=h;have hx:∃x,xs[i]?=some x∧x.1=t:=by
  rw[← h1,List.getElem?_map] at ht;cases vJ:xs[i]? with
  |none=>rw[vJ] at ht;cases ht
  |some x=>rw[vJ] at ht;simp only[Option.map_some,Option.some.injEq] at ht;exact ⟨x,rfl,ht⟩
 obtain ⟨x,vJ,rfl⟩:=hx;have hc:∀j u,(dV x)[j]?=some u→W.cell? ⟨g,i*3+j,none⟩=some u:=fun j u hj=>by obtain ⟨h6,h7⟩:=List.getElem?_eq_some_iff.1 (eQ pg xs i x j u vJ hj);rw[bJ h3 _ h6,h7]
 exact ⟨x.2,hc 0 _ rfl,hc 1 _ rfl,hc 2 _ rfl,h4 x (List.mem_of_getElem? vJ)⟩
theorem row_one {α:Type} {w:World} {v:Value} {k:Nat} {f:α→List Value} {l:List α} (h:dx w v k f l):v.oneCell'=true:=by obtain ⟨p,c,rfl,_⟩:=h;rfl
theorem dC.rows {W:World} {B n:Nat} {vo vl:Value} {l:List dX} (h:dC W B vo vl n l) (hn:1≤n):∃(g cap:Nat) (xs:List (dX×Value)),vl=.slice (some ⟨g,0,none⟩) n cap∧n≤cap∧cap≤maxLen∧xs.map Prod.fst=l∧xs.length=n∧dx W vl 3 dV xs∧iN W (some ⟨g,0,none⟩) n 3 ((xs.map dV).flatten)∧∀x∈xs,dx (mask (EN vo vl) W) x.2 1 sI x.1.ins:=by
 obtain ⟨xs,h1,h2,h3,h4⟩:=h;rcases aK h3 with ⟨_,e,_⟩|⟨g,cap,rfl⟩
 ·omega
 obtain ⟨cur,hg,_,c1,c2,Zp⟩:=bp h3;refine ⟨g,cap,xs,rfl,c1,c2,h1,h2,kz pg h2 h3,⟨?_,(fun e=>by cases e),?_,?_⟩,h4⟩
 ·have:=lV pg xs
  unfold bn at this;rw[this,h2]
 ·intro u hu
  obtain ⟨q,hq,hu⟩:=List.mem_flatten.1 hu;obtain ⟨x,hx,rfl⟩:=List.mem_map.1 hq;unfold dV at hu;simp only[List.mem_cons,List.not_mem_nil,or_false] at hu;rcases hu with rfl|rfl|rfl
  ·rfl
  ·rfl
  ·exact row_one (h4 x hx)
 ·intro a e j u hj
  cases e;obtain ⟨h6,h7⟩:=List.getElem?_eq_some_iff.1 hj;rw[jS,bJ h3 j h6,← h7];rfl
theorem Dg {α β:Type} (f:α→β) (l:List α) (p:Nat):(l.eraseIdx p).map f=(l.map f).eraseIdx p:=by rw[List.eraseIdx_eq_take_drop_succ,List.eraseIdx_eq_take_drop_succ,List.map_append,List.map_take,List.map_drop]
theorem dC.erase {W W':World} {B n p:Nat} {vo vl v':Value} {l:List dX} {xs:List (dX×Value)} (h1:xs.map Prod.fst=l) (h2:xs.length=n) (hp:p<n) (h4:∀x∈xs,dx (mask (EN vo vl) W) x.2 1 sI x.1.ins) (hb:Bw W W') (hB:B≤W.heap.size)
 (ho:W'.ownsRow W.heap.size 283 3 v' (n-1) ((xs.map dV).eraseIdx p).flatten):dC W' B vo v' (n-1) (l.eraseIdx p):=by
 refine ⟨xs.eraseIdx p,by rw[← h1,Dg],by rw[List.length_eraseIdx_of_lt (by omega),h2],?_,fun x hx=>?_⟩
 ·unfold bn;rw[Dg];exact bC hB ho
 ·refine (h4 x (List.mem_of_mem_eraseIdx hx)).keep (bI fun a u hF hu=>⟨⟨hF.1,?_⟩,ae hb hu⟩)
  intro e;have:=(ho.lt _ e.symm).1;have:=World.block_lt_of_cell? _ _ hu;omega
theorem Od {out:List Int} {M:Int} (s:Int) (h:∀x∈out,x≤M) (hM:0≤M):∀x∈gy out s,x≤M+1:=by
 intro x hx;unfold gy at hx;rcases List.mem_or_eq_of_mem_set hx with hx|rfl
 ·have:=h x hx;omega
 ·cases hs:out[s.toNat]? with
  |none=>simp;omega
  |some y=>have:=h y (List.mem_of_getElem? hs);simp;omega
theorem Oe (l:List Int):∀ {out:List Int} {M:Int},(∀x∈out,x≤M)→0≤M→∀x∈gI out l,x≤M+l.length:=by
 induction l with
 |nil=>intro out M h _ x hx;have:=h x hx;simp;omega
 |cons a l ih=>intro out M h hM x hx;have:=ih (Od a h hM) (by omega) x hx;rw[List.length_cons];omega
theorem Hh {out l:List Int} {j:Nat} {s:Int} (h:l[j]?=some s):gI out (l.take (j+1))=gy (gI out (l.take j)) s:=by unfold gI;rw[List.take_add_one,h,Option.toList,List.foldl_append];rfl
def aks:Value→Nat
 |.slice _ n _=>n
 |_=>0
theorem rX (l:List Int) (j:Nat) (x:Int):(bB l).set j (.int .i64 x)=bB (l.set j x):=by unfold bB;rw[List.map_set]
theorem Og {l:List Int} {i:Nat} {x:Int} (h:l[i]?=some x):(bB l)[i]?=some (.int .i64 x):=by unfold bB;rw[List.getElem?_map,h];rfl
theorem AB {w:World} {B g cap n:Nat} {e:TypeId} {l:List Int} (h:w.ownsRow B e 1 (.slice (some ⟨g,0,none⟩) n cap) n (bB l)) {j:Nat} {x:Int} (hj:l[j]?=some x):w.cell? ⟨g,j,none⟩=some (.int .i64 x):=by obtain ⟨h2,h3⟩:=List.getElem?_eq_some_iff.1 (Og hj);rw[bJ h j h2,h3]
theorem Sg (w:World) (a b:List Int) (va vb:Value) (ha:dx w va 1 sI a) (hb:dx w vb 1 sI b) (hl:a.length≤1000000) (hl2:b.length≤1000000) :
 ∃v1 w1 v2 w2,(Builtin.append_ #[70,70] 70 #[.slice (some ⟨w.heap.size,0,none⟩) 0 0,va]).run Tryz.prog (w.alloc (.cells #[] 3))=.ok v1 w1∧(Builtin.append_ #[70,70] 70 #[v1,vb]).run Tryz.prog w1=.ok v2 w2 ∧
  w2.ownsRow w.heap.size 3 1 v2 (a.length+b.length) (bB (a++b))∧Bw w w1∧Bw w w2:=by
 obtain ⟨i0,iP,hz0,hz1,hz2⟩:=info_parts MJ;obtain ⟨pa,ca,rfl,_,_,hca,hsa⟩:=ha.src uU Hg (by decide);obtain ⟨v1,w1,r1,o1,g1⟩:=dP (P:=Tryz.prog) (w.alloc (.cells #[] 3)) w.heap.size 70 70 3 i0 (.int .i64 0) 1 8 Tryz.underlying70 iP hz0 hz1 hz2 rfl (by decide) _ 0 [] (World.ownsRow_made w #[] 0 aT (by unfold maxLen;omega) rfl) pa a.length ca _ (hsa.stays (aq)) hca (by unfold maxLen;omega) (by omega) (by simp);have hb1:Bw w w1:=fC (iA g1) aT (fun k hk=>by simp[Value.ownBlock] at hk;omega);rw[List.nil_append,Nat.zero_add,rW] at o1;obtain ⟨pb,cb,rfl,_,_,hcb,Sh⟩:=hb.src uU Hg (by decide);obtain ⟨v2,w2,r2,o2,g2⟩:=dP (P:=Tryz.prog) w1 w.heap.size 70 70 3 i0 (.int .i64 0) 1 8 Tryz.underlying70 iP hz0 hz1 hz2 rfl (by decide) v1 a.length _ o1 pb b.length cb _ (Sh.stays hb1) hcb (by unfold maxLen;omega) (by omega) hb1.size;refine ⟨v1,w1,v2,w2,r1,r2,?_,hb1,hb1.grown g2 hb1.size (fun k hk=>(o1.lt k hk).1)⟩;rw[rW] at o2;unfold bB at *;rw[List.map_append];exact o2
end Go.Proofs.YtbigkioechkngaaGreat
namespace Go.Proofs.YtbigkioechkngaaGreat
def jY (x:Int):Int:=if 0<x∧x<16 then ((2 ^ (15-x).toNat:Nat):Int) else 0
def iD (l:List Int):Int:=(l.map jY).sum
def iE (n:Int):List Int→Nat→List (Int×Int)→Int→List (Int×Int)×Int
 |[],_,out,next=>(out,next)
 |x::l,i,out,next=>if x=n then iE n l (i+1) (out.set i (n,next)) (next+1) else iE n l (i+1) out next
def ll (l:List Int):Nat→Int→List (Int×Int)→Int→List (Int×Int)
 |0,_,out,_=>out
 |k+1,n,out,next=>ll l k (n+1) (iE n l 0 out (2*next)).1 (iE n l 0 out (2*next)).2
def r9 (l:List Int):Bool:=decide (l.length≤300)&&l.all (fun x=>decide (0≤x∧x≤15))&&decide (iD l≤32768)
def gR (l:List Int):Option (List (Int×Int)):=if r9 l=true then some (ll l 15 1 (List.replicate l.length (0,0)) 0) else none
theorem tS (n:Int):∀(l:List Int) (i:Nat) (out:List (Int×Int)) (next:Int),(iE n l i out next).1.length=out.length
 |[],_,_,_=>rfl
 |x::l,i,out,next=>by
  unfold iE
  split
  ·rw[tS n l,List.length_set]
  ·exact tS n l _ _ _
theorem AW (l:List Int):∀(k:Nat) (n:Int) (out:List (Int×Int)) (next:Int),(ll l k n out next).length=out.length
 |0,_,_,_=>rfl
 |k+1,n,out,next=>by rw[ll,AW l k,tS]
theorem K1 {l:List Int} {c:List (Int×Int)} (h:gR l=some c):c.length=l.length:=by
 unfold gR at h
 split at h
 ·cases h;rw[AW];simp
 ·cases h
def AX (M:Int) (out:List (Int×Int)):Prop:=∀x∈out,0≤x.1∧x.1≤15∧0≤x.2∧x.2≤M
theorem wQ {n:Int} (hn:0≤n∧n≤15):∀(l:List Int) (i:Nat) (out:List (Int×Int)) (next M:Int),AX M out→0≤next→next+l.length≤M→AX M (iE n l i out next).1∧next≤(iE n l i out next).2∧(iE n l i out next).2≤next+l.length
 |[],_,out,next,M,h,_,_=>⟨h,Int.le_refl _,by simp[iE]⟩
 |x::l,i,out,next,M,h,h0,h1=>by
  rw[List.length_cons] at h1;unfold iE
  split
  ·have h2:AX M (out.set i (n,next)):=fun y hy=>by
    rcases List.mem_or_eq_of_mem_set hy with hy|rfl
    ·exact h y hy
    ·simp only;omega
   obtain ⟨k1,k2,k3⟩:=wQ hn l (i+1) _ (next+1) M h2 (by omega) (by omega);exact ⟨k1,by omega,by rw[List.length_cons];omega⟩
  ·obtain ⟨k1,k2,k3⟩:=wQ hn l (i+1) out next M h h0 (by omega)
   exact ⟨k1,k2,by rw[List.length_cons];omega⟩
def iV:Nat→Int
 |0=>0
 |n+1=>2*iV n+300
theorem wR:∀n,0≤iV n
 |0=>Int.le_refl _
 |n+1=>by have:=wR n;unfold iV;omega
theorem tT {a b:Nat} (h:a≤b):iV a≤iV b:=by
 induction b with
 |zero=>
  have:a=0:=by omega
  subst this;exact Int.le_refl _
 |succ b ih=>
  by_cases e:a=b+1
  ·subst e;exact Int.le_refl _
  ·have h1:=ih (by omega);have h2:=wR b
   have h3:iV (b+1)=2*iV b+300:=rfl;omega
theorem Dv {l:List Int} (hl:l.length≤300):∀(k m:Nat) (out:List (Int×Int)) (next:Int),m+k=15→0≤next→next≤iV m→AX (iV 15) out→AX (iV 15) (ll l k (m+1:Nat) out next)
 |0,_,out,_,_,_,_,h=>h
 |k+1,m,out,next,hm,h0,h1,h=>by have h15:=tT (show m+1≤15 by omega);have e:iV (m+1)=2*iV m+300:=rfl;obtain ⟨k1,k2,k3⟩:=wQ (n:=((m+1:Nat):Int)) ⟨by omega,by omega⟩ l 0 out (2*next) (iV 15) h (by omega) (by omega);rw[ll];exact Dv hl k (m+1) _ _ (by omega) (by omega) (by omega) k1
theorem OD {l:List Int} {c:List (Int×Int)} (h:gR l=some c):∀x∈c,0≤x.1∧x.1≤15∧0≤x.2∧x.2≤1000000000:=by
 unfold gR at h
 split at h
 ·rename_i hok
  cases h;unfold r9 at hok;simp only[Bool.and_eq_true,decide_eq_true_eq] at hok;have:=Dv hok.1.1 15 0 (List.replicate l.length (0,0)) 0 (by omega) (Int.le_refl _) (Int.le_refl _) (fun x hx=>by
   have:=(List.mem_replicate.1 hx).2;subst this;exact ⟨by decide,by decide,by decide,wR 15⟩)
  have e:iV 15≤1000000000:=by decide
  exact fun x hx=>by have:=this x hx;omega
 ·cases h
def jZ (l:List Int) (s:Int):Option (List Bool):=match gR l with
 |none=>none
 |some c=>if 0≤s∧s<l.length∧¬(l[s.toNat]?).getD 0=0 then sQ [] ((c[s.toNat]?).getD (0,0)).2 ((c[s.toNat]?).getD (0,0)).1 else none
def gS (t:jR):Int:=if jW t=true then (if 0<t.len then 253+t.len else t.byte) else -1
theorem AY {t:jR} (h:jW t=true):0≤gS t∧gS t≤271:=by
 unfold gS;rw[if_pos h];rcases qN h with ⟨h1,h2,h3,h4⟩|⟨h1,h2,h3,h4,h5⟩
 ·rw[if_neg (by omega)];omega
 ·rw[if_pos (by omega)];omega
def kd (l:List jR):List Int:=l.foldl (fun f t=>gy f (gS t)) (List.replicate 272 0)
def zq (n:List Int) (i:Nat):List Bool:=if 0<(n[i]?).getD 0 then bitsOf i 9++bitsOf ((n[i]?).getD 0).toNat 4 else []
def nD (n:List Int):Nat→List Bool
 |0=>[]
 |i+1=>nD n i++zq n i
def u9 (n:List Int):Nat→Nat
 |0=>0
 |i+1=>u9 n i+if 0<(n[i]?).getD 0 then 1 else 0
def OE (n:List Int) (t:jR):List Bool:=(jZ n (gS t)).getD []++if 0<t.len then bitsOf t.yT.toNat 8 else []
def gN (n:List Int) (l:List jR):List Bool:=(l.map (OE n)).flatten
def jy (l:List jR):Option (List Bool):=if l.length≤1000∧l.all jW=true then some (bitsOf (u9 (iT (kd l)) 272) 9++nD (iT (kd l)) 272++gN (iT (kd l)) l) else none
def OG (s:List UInt8):List UInt8:=GL ((jy (eK s 0)).getD [])
def E1 (s:List UInt8):List UInt8×Bool×Bool:=if s.length=256 then (if (OG s).length<256 then (OG s,true,true) else (s,false,true)) else ([],false,false)
end Go.Proofs.YtbigkioechkngaaGreat
namespace Go.Proofs.YtbigkioechkngaaGreat
open Go.RowKit
def A9 (f:Nat→Bool):List Bool:=(List.range 16).map f
theorem vg (f:Nat→Bool):(A9 f).length=16:=by unfold A9;simp
theorem Tl (f:Nat→Bool) (s:Nat):(bS (A9 f)).set s (.bool true)=bS (A9 fun i=>f i || decide (i=s)):=by
 unfold bS A9;apply List.ext_getElem?;intro i;rw[List.getElem?_set];by_cases hs:s=i
 ·subst hs
  rw[if_pos rfl];by_cases h:s<16
  ·rw[if_pos (by simpa using h),List.getElem?_map,List.getElem?_map,List.getElem?_range h];simp
  ·rw[if_neg (by simpa using h),List.getElem?_eq_none (by simpa using h)]
 ·rw[if_neg hs,List.getElem?_map,List.getElem?_map,List.getElem?_map,List.getElem?_map]
  by_cases h:i<16
  ·rw[List.getElem?_range h]
   simp only[Option.map_some];rw[decide_eq_false (fun e=>hs e.symm),Bool.or_false]
  ·rw[List.getElem?_eq_none (by simpa using h)];rfl
theorem I0 (W:World):∃w1,(Instr.makeSlice 24 (.int .i64 16) (.int .i64 16)).run Tryz.prog W=.ok (.slice (some ⟨W.heap.size,0,none⟩) 16 16) w1∧w1.ownsRow W.heap.size 4 1 (.slice (some ⟨W.heap.size,0,none⟩) 16 16) 16 (bS (A9 fun _=>false))∧Below W.heap.size W w1:=by
 obtain ⟨i0,hi,hz0,hz1,hz2⟩:=info_parts qK;obtain ⟨w1,jP,hown,hg⟩:=run_make_full (P:=Tryz.prog) W W.heap.size 24 4 i0 (.bool false) 1 Tryz.underlying24 hi hz0 hz1 .i64 .i64 16 (by rw[hz2];omega) (by unfold maxLen;omega) aT;refine ⟨w1,jP,?_,aH.grown hg aT (fun k e=>by cases e)⟩;have e:(Value.bool false).cells = #[Value.bool false]:=rfl;rw[e,toList_madeCells_one] at hown;have e2:bS (A9 fun _=>false)=List.replicate 16 (Value.bool false):=by kernel_rfl
 rw[e2];exact hown
theorem Pe (l:List aj) (v1:Value) (w:World) (h1:dB w v1 l):Calls Tryz.prog 126 #[v1] w fun e w'=>∃v,e=.returned v∧w'.ownsRow w.heap.size 4 1 v (ko l).length (bS (ko l))∧Below w.heap.size w w':=by
 have dS:=aa (oz l v1 w h1);obtain ⟨p,cp,rfl,a1,a2,ha⟩:=h1;have HA:=aa ha;obtain ⟨N,hN⟩:=aG l.length;rw[hN] at a1 dS;rw[hN];have hlc:=fK (n:=N) a2;have HN:=aa hN;clear ha hN a1 a2;obtain ⟨m,hm⟩:=aG (dD l);have HM:=aa hm;rw[hm] at dS;clear hm;go_enter Tryz.func126,Tryz.ntmps126;cases m with
 |false=>have HE:=aa (show ko l=[] by unfold ko;rw[if_neg (by rw[HM.o];simp)]);go_wp2_with (go_at_call 119;(with_reducible refine dS.o.mono ?_);rintro e w5 ⟨rfl,aR⟩;have bA:=aa aR;clear aR);go_ret;exact ⟨_,rfl,by rw[HE.o];exact World.ownsRow_nil _ _ _ _,bA⟩
 |true=>
  have HE:=aa (show ko l=A9 (fun s=>l.any (jX (s:Nat))) by unfold ko;rw[if_pos HM.o];rfl);go_upto_region 3 with (go_at_call 119;(with_reducible refine dS.o.mono ?_);rintro e w5 ⟨rfl,aR⟩;have bA:=aa aR;clear aR);obtain ⟨w6,jP,hrow,cW⟩:=I0 w5;obtain ⟨g,hg⟩:=aG w5.heap.size;rw[hg] at jP hrow cW;have Ba:=aa hrow;have cQ:=aa (show Below w.heap.size w w6 from bA.trans (cW.mono (by rw[← hg];exact bA.size)));have HG:=aa (show w.heap.size≤g by rw[← hg];exact bA.size);clear hrow cW hg;go_wp2_with fail;clear jP;go_loopw [13,5,19,6] (fun i _ _ _ wr=>∃k:Nat,k≤N∧i=.int .i64 k∧wr.ownsRow g 4 1 (.slice (some ⟨g,0,none⟩) 16 16) 16 (bS (A9 fun s=>(l.take k).any (jX (s:Nat))))∧Below w.heap.size w wr) (fun i _ _ _ _=>N-(intOf i).toNat)
  case atStart=>exact ⟨0,dQ,rfl,by rw[List.take_zero];exact Ba,cQ⟩
  case round=>
   obtain ⟨k,hk,rfl,hrow,hb⟩:=hrel;have bY:=aa hrow;have HB:=aa hb;clear hrow hb;by_cases hlt:k<N
   case neg=>
    obtain rfl:k=N:=by omega
    have kQ:=aa (show l.take k=l from List.take_of_length_le (by rw[HN.o];exact aT));go_wp2_with fail;go_ret;refine ⟨_,rfl,?_,HB⟩;have h:=bY.o;rw[kQ.o] at h;rw[HE.o,vg];exact bC HG h
   case pos=>
    have fO:(k:Int)<(N:Int):=(by omega);obtain ⟨⟨a,b,c,d⟩,hs⟩:∃s,l[k]?=some s:=⟨_,List.getElem?_eq_getElem (by rw[HN.o];omega)⟩
    obtain ⟨g1,o,rfl,x1⟩:=HA.o k _ hs;obtain ⟨r0,r1,r2,r3⟩:=x1.keep (af HB);simp only at r0 r1 r2 r3;have Ca:=aa (bW.1 (gV HM (List.mem_of_getElem? hs)));have sJ:=aa (show ∀s:Nat,(l.take (k+1)).any (jX s)=((l.take k).any (jX s) || jX s (a,b,c,d)) from fun s=>by
     rw[List.take_add_one,hs,Option.toList_some,List.any_append];simp)
    clear hs x1;obtain ⟨W2,hW2⟩:=aG (wr.alloc (.cells #[.int .i64 a,.int .i64 b,.int .i64 c,.bool d] 52));have jf:Below wr.heap.size wr W2:=by rw[← hW2];exact aq
    have Dl:=aa (show aJ W2 wr.heap.size [.int .i64 a,.int .i64 b,.int .i64 c,.bool d] by rw[← hW2];exact aJ.new wr _ _);have nB:=aa (aM bY jf);have bU:=aV HB jf;have HGL:=aa (bY.lt g rfl).2;go_upto_region 7 with fail
    try rw[hW2]
    clear hW2 jf r0 r1 r2 r3;obtain ⟨q0,q1,q2,q3⟩:=Dl.four;go_wp2_with fail;clear q0 q1 q2 q3;obtain ⟨h1,h2,h3,h4,_⟩:=Ca.o
    try simp only at h1 h2 h3 h4
    obtain ⟨A,rfl⟩:∃A:Nat,a=A:=⟨a.toNat,by omega⟩
    obtain ⟨Bn,rfl⟩:∃B:Nat,b=B:=⟨b.toNat,by omega⟩
    have HAB:=aa (show 1≤Bn∧A+Bn≤16 by omega);clear h1 h2 h3 h4 Ca;obtain ⟨wo,rfl⟩:∃wo,wo=wr:=⟨_,rfl⟩
    go_loopw [19,6] (fun i _ wr=>∃j:Nat,j≤Bn∧i=.int .i64 j∧wr.ownsRow g 4 1 (.slice (some ⟨g,0,none⟩) 16 16) 16 (bS (A9 fun s=>(l.take k).any (jX (s:Nat)) || decide (A≤s∧s<A+j)))∧aJ wr wo.heap.size [.int .i64 A,.int .i64 Bn,.int .i64 c,.bool d]∧Below w.heap.size w wr) (fun i _ _=>Bn-(intOf i).toNat)
    case atStart=>exact ⟨0,dQ,rfl,by
     have e:(fun s:Nat=>(l.take k).any (jX (s:Nat)) || decide (A≤s∧s<A+0))=(fun s:Nat=>(l.take k).any (jX (s:Nat))):=by
      funext s;rw[decide_eq_false (by omega),Bool.or_false]
     rw[e];exact nB,Dl,bU⟩
    case round=>
     obtain ⟨j,hj,rfl,hrow,fN,hb⟩:=hrel;have uz:=aa hrow;have kK:=aa fN;have dG:=aa hb;obtain ⟨q0,q1,q2,q3⟩:=fN.four;clear hrow fN hb;by_cases Ur:j<Bn
     case neg=>
      obtain rfl:j=Bn:=by omega
      go_wp2_with fail;go_roundw
      case rel=>exact ⟨k+1,by omega,by go_num,by
       have e:(fun s:Nat=>(l.take (k+1)).any (jX (s:Nat)))=(fun s:Nat=>(l.take k).any (jX (s:Nat)) || decide (A≤s∧s<A+j)):=by
        funext s
        rw[sJ.o s];congr 1;unfold jX;simp only[decide_eq_decide];omega
       rw[e];exact uz.o,dG.o⟩
      case measure=>simp[intOf];omega
     case pos=>
      have asS:(j:Int)<(Bn:Int):=(by omega);have hAB:=HAB.o;have i0:(0:Int)≤(A:Int)+(j:Int):=by omega
      have i1:(A:Int)+(j:Int)<16:=(by omega);obtain ⟨b0,hb0⟩:∃b0,(A9 fun s=>(l.take k).any (jX (s:Nat)) || decide (A≤s∧s<A+j))[A+j]?=some b0:=⟨_,List.getElem?_eq_getElem (by rw[vg];omega)⟩
      have c0:=bJ uz (A+j) (by unfold bS;rw[List.length_map,vg];omega);have cf:=gC uz (A+j);have c1:wr.cell? ⟨g,A+j,none⟩=some (.bool b0):=by rw[c0];unfold bS;rw[List.getElem_map];obtain ⟨_,h9⟩:=List.getElem?_eq_some_iff.1 hb0;rw[h9]
      have Lr:=aa (l9 uz (A+j) (.bool true) (by unfold bS;rw[List.length_map,vg];omega));have HGN:=HGL.o;clear c0 hb0 hAB;go_wp2_with fail;go_roundw
      case rel=>exact ⟨j+1,by omega,by go_num,by
       have h:=Lr.o;rw[Tl] at h;have e:(fun s:Nat=>(l.take k).any (jX (s:Nat)) || decide (A≤s∧s<A+(j+1)))=(fun i:Nat=>((l.take k).any (jX (i:Nat)) || decide (A≤i∧i<A+j)) || decide (i=A+j)):=by
        funext s
        rw[Bool.or_assoc];congr 1;rw[Bool.eq_iff_iff];simp only[Bool.or_eq_true,decide_eq_true_eq];omega
       rw[e];exact h,kK.o.far (by omega) _ _,dG.o.setCell (p:=⟨g,A+j,none⟩) HG.o _⟩
      case measure=>simp[intOf];omega
def wZ (a:Int):Nat→List aj→Int
 |_,[] => -1
 |i,u::l=>if u.1=a then (i:Int) else wZ a (i+1) l
theorem Pf {l:List aj} {k:Nat} {u:aj} {a:Int} (h:l[k]?=some u):wZ a k (l.drop k)=if u.1=a then (k:Int) else wZ a (k+1) (l.drop (k+1)):=by rw[List.drop_eq_getElem_cons (List.getElem?_eq_some_iff.1 h).1,(List.getElem?_eq_some_iff.1 h).2];rfl
theorem tW {a:Int}:∀(l:List aj) (i:Nat),(wZ a i l = -1∧mF a l=0∧∀u∈l,¬u.1=a)∨∃(j:Nat) (u:aj),wZ a i l=(i+j:Nat)∧l[j]?=some u∧u.1=a∧mF a l=u.2.2.1∧∀v∈l.take j,¬v.1=a
 |[],i=>.inl ⟨rfl,rfl,fun u h=>by simp at h⟩
 |u::l,i=>by
  by_cases h:u.1=a
  ·refine .inr ⟨0,u,by unfold wZ;rw[if_pos h];rfl,rfl,h,by unfold mF;rw[if_pos h],fun v hv=>by simp at hv⟩
  ·rcases tW l (i+1) with ⟨h1,h2,h3⟩|⟨j,v,h1,h2,h3,h4,h5⟩
   ·refine .inl ⟨by unfold wZ;rw[if_neg h];exact h1,by unfold mF;rw[if_neg h];exact h2,fun x hx=>?_⟩
    rcases List.mem_cons.1 hx with rfl|hx
    ·exact h
    ·exact h3 x hx
   ·refine .inr ⟨j+1,v,by unfold wZ;rw[if_neg h,h1];congr 1;omega,by rw[List.getElem?_cons_succ];exact h2,h3,by unfold mF;rw[if_neg h];exact h4,fun x hx=>?_⟩
    rw[List.take_succ_cons,List.mem_cons] at hx;rcases hx with rfl|hx
    ·exact h
    ·exact h5 x hx
theorem Pg (a b c at_:Int) (d:Bool) (B:Nat) (w:World) (hB:w.cell? ⟨B,0,none⟩=some (.int .i64 at_)):Calls Tryz.prog 204 #[.agg #[.int .i64 a,.int .i64 b,.int .i64 c,.bool d],.pointer (some ⟨B,0,none⟩)] w fun e w'=>e=.returned (.bool (a==at_))∧Bw w w':=by
 obtain ⟨W2,hW2⟩:=aG (w.alloc (.cells #[.int .i64 a,.int .i64 b,.int .i64 c,.bool d] 52));have jf:Bw w W2:=by rw[← hW2];exact aq
 have Dl:=aa (show aJ W2 w.heap.size [.int .i64 a,.int .i64 b,.int .i64 c,.bool d] by rw[← hW2];exact aJ.new w _ _);have jr:=aa jf;have h2:=ae jf hB;clear hB jf;go_enter Tryz.func204,Tryz.ntmps204;go_upto_region 1 with fail
 try rw[hW2]
 clear hW2;have q0:=Dl.cell (j:=0) rfl;go_wp2_with fail;go_ret;exact ⟨rfl,jr⟩
theorem I1 (l:List aj) (at_:Int) (B:Nat) (v1:Value) (w:World) (h1:dB w v1 l) (hB:w.cell? ⟨B,0,none⟩=some (.int .i64 at_)):Calls Tryz.prog 203 #[v1,.func (.func 204) #[] #[.pointer (some ⟨B,0,none⟩)]] w fun e w'=>e=.returned (.int .i64 (wZ at_ 0 l))∧Bw w w':=by
 obtain ⟨p,cp,rfl,a1,a2,ha⟩:=h1;have HA:=aa ha;have sN:=aa (fun (a b c:Int) (d:Bool) (W:World) (hb:Bw w W)=>Pg a b c at_ d B W (ae hb hB));obtain ⟨N,hN⟩:=aG l.length;rw[hN] at a1;rw[hN];have hlc:=fK (n:=N) a2;have HN:=aa hN;clear ha hN a1 a2 hB;obtain ⟨r,hr⟩:=aG (wZ at_ 0 l);rw[hr];have HR:=aa hr;clear hr;go_enter Tryz.func203,Tryz.ntmps203;go_wp2_with fail;go_loopw [8,5] (fun i _ wr=>∃k:Nat,k≤N∧i=.int .i64 k∧wZ at_ k (l.drop k)=r∧Bw w wr) (fun i _ _=>N-(intOf i).toNat)
 case atStart=>exact ⟨0,dQ,rfl,by rw[List.drop_zero];exact HR,aH⟩
 case round=>
  obtain ⟨k,hk,rfl,hall,hb⟩:=hrel;have ez:=aa hall;have HB:=aa hb;clear hall hb;by_cases hlt:k<N
  case neg=>
   obtain rfl:k=N:=by omega
   have HF:=aa (show r = -1 by rw[← ez.o,List.drop_of_length_le (by rw[HN.o];exact aT)];rfl);go_wp2_with fail;go_ret;exact ⟨kP HF.symm,HB⟩
  case pos=>
   have fO:(k:Int)<(N:Int):=(by omega);obtain ⟨⟨a,b,c,d⟩,hs⟩:∃s,l[k]?=some s:=⟨_,List.getElem?_eq_getElem (by rw[HN.o];omega)⟩
   obtain ⟨g,o,rfl,x1⟩:=HA.o k _ hs;obtain ⟨r0,r1,r2,r3⟩:=x1.keep (af HB);simp only at r0 r1 r2 r3;have fS:=aa (Pf (a:=at_) hs);clear hs x1;obtain ⟨bq,yV⟩:∃b,(a==at_)=b:=⟨_,rfl⟩
   have vY:=aa yV;clear yV;cases bq with
   |true=>have HF:=aa (show r=(k:Int) by rw[← ez.o,fS.o,if_pos (by have:=vY.o;simpa using this)]);go_wp2_with (go_at_call 204;(with_reducible refine (sN.o _ _ _ _ _ HB.o).mono ?_);rintro e w2 ⟨rfl,hb⟩;rw[vY.o];have bU:=aV HB hb;clear hb);go_ret;exact ⟨kP HF.symm,bU⟩
   |false=>
    have HF:=aa (show wZ at_ (k+1) (l.drop (k+1))=r by rw[← ez.o,fS.o,if_neg (by have:=vY.o;simpa using this)]);go_wp2_with (go_at_call 204;(with_reducible refine (sN.o _ _ _ _ _ HB.o).mono ?_);rintro e w2 ⟨rfl,hb⟩;rw[vY.o];have bU:=aV HB hb;clear hb);go_roundw
    case rel=>exact ⟨k+1,by omega,by go_num,HF.o,bU.o⟩
    case measure=>simp[intOf];omega
theorem I2 (l:List aj) (at_:Int) (v1:Value) (w:World) (h1:dB w v1 l):Calls Tryz.prog 171 #[v1,.int .i64 at_] w fun e w'=>e=.returned (.int .i64 (wZ at_ 0 l))∧Bw w w':=by
 obtain ⟨W2,hW2⟩:=aG (w.alloc (.cells #[.int .i64 at_] 3));have jf:Bw w W2:=by rw[← hW2];exact aq
 have Dl:=aa (show aJ W2 w.heap.size [.int .i64 at_] by rw[← hW2];exact aJ.new w _ _);have HIX:=aa (I1 l at_ w.heap.size v1 W2 (h1.keep (af jf)) Dl.one);have jr:=aa jf;obtain ⟨p,cp,rfl,_⟩:=h1;clear jf;go_enter Tryz.func171,Tryz.ntmps171;go_upto_region 1 with fail
 try rw[hW2]
 clear hW2;go_wp2_with (go_at_call 203;(with_reducible refine HIX.o.mono ?_);rintro e w3 ⟨rfl,hb⟩;have dG:=aV jr hb;clear hb);go_ret;exact ⟨rfl,dG⟩
theorem Tx:(Tryz.prog.info? 47).map (fun i=>(i.zero,i.size,i.bytes))=some (some (.agg #[.int .i64 0,.string ⟨#[]⟩]),2,24):=by kernel_rfl
theorem sY (p:Option Addr) (n c:Nat) (xs:List Value) (w:World) (hs:iN w p n 2 xs) (hn:n≤1000000000) :
 Calls Tryz.prog 69 #[.slice p n c] w fun e w'=>∃v',e=.returned v'∧w'.ownsRow w.heap.size 47 2 v' n xs∧Bw w w':=by
 obtain ⟨hl,hnil,h1,hx⟩:=hs;cases p with
 |none=>have hq:∀w:World,(binOp .eql 23 (.slice none 0 c) (.slice none 0 0)).run Tryz.prog w=.ok (.bool true) w:=fun w=>Lib.run_eql_slice_nil w 23 47 none 0 c 0 0 Tryz.underlying23;obtain rfl:=hnil rfl;obtain rfl:xs=[]:=List.eq_nil_of_length_eq_zero (by rw[hl,Nat.zero_mul]);clear hnil hx h1 hl hn;go_enter Tryz.func69,Tryz.ntmps69;go_wp2_with fail;go_ret;exact ⟨_,rfl,World.ownsRow_nil _ _ _ _,aH⟩
 |some a=>
  have HX:=aa (hx a rfl);have HL:=aa hl;have H1:=aa h1;have HN:=aa hn;clear hnil hx h1 hl hn;have hq:∀w:World,(binOp .eql 23 (.slice (some a) n c) (.slice none 0 0)).run Tryz.prog w=.ok (.bool false) w:=fun w=>Lib.run_eql_slice_nil w 23 47 (some a) n c 0 0 Tryz.underlying23;obtain ⟨i0,hi,hz0,hz1,hz2⟩:=info_parts Tx;have HB:=aa (((Below.refl w.heap.size w).alloc aT (.cells #[] 47)));go_enter Tryz.func69,Tryz.ntmps69;go_wp2_with (at_builtin;refine wpList_append_own _ rfl _ _ 23 rfl w.heap.size 47 i0 (.agg #[.int .i64 0,.string ⟨#[]⟩]) 2 24 Tryz.underlying23 hi hz0 hz1 hz2 rfl (by decide) _ 0 [] rfl (World.ownsRow_made w #[] 0 aT (by unfold maxLen;omega) rfl) a n c xs rfl ?_ ?_ ?_ ?_ ?_ ?_ ?_)
  ·exact HL.o
  ·intro j u hu;exact cell_later HB (HX j u hu)
  ·exact H1.o
  ·have:=HN.o;unfold maxLen;omega
  ·have:=HN.o;omega
  ·simp
  ·intro v' w1 hown hg _
   have HO:=aa hown;have HG:=aa hg;clear hown hg;go_wp2_with fail;go_ret;exact ⟨v',rfl,by simpa using HO.o,HB.grown HG (by simp) (fun k e=>by simp[Value.ownBlock] at e;omega)⟩
end Go.Proofs.YtbigkioechkngaaGreat
namespace Go.Proofs.YtbigkioechkngaaGreat
open Go.ChangeShapes Go.WideShapes Go.ChangeAt Go.RowKit
theorem tq {H:Type} {enc:TypeId×Value→H} {P:Program} (hl:laidOutB P=true) {W W':World} (hb:Bw W W') :
 ∀(ts:List TypeId) (vs:List Value) (ds:List (DataW H)) (p:List MemPlace),(∀t∈ts,P.readableRec t=true∧t<P.types.size) →
  DataW.TrodAll enc P W 0 (fun _=>true) true ts vs ds p→(∀x∈p,x.block<W.heap.size)→DataW.TrodAll enc P W' 0 (fun b=>decide (b<W.heap.size)) true ts vs ds p
 |[],[],[],p,_,h,_=>h
 |t::ts,v::vs,d::ds,p,ht,h,hp=>by obtain ⟨p1,p2,h1,h2,rfl⟩:=h;refine ⟨p1,p2,Below.trod hl (ht t (by simp)).1 (ht t (by simp)).2 h1 hb (fun x hx=>hp x (by simp[hx])),?_,rfl⟩;exact tq hl hb ts vs ds p2 (fun t h=>ht t (by simp[h])) h2 (fun x hx=>hp x (by simp[hx]))
 |[],_::_,_,_,_,h,_=>by cases h
 |[],[],_::_,_,_,h,_=>by cases h
 |_::_,[],_,_,_,h,_=>by cases h
 |_::_,_::_,[],_,_,h,_=>by cases h
theorem BO {H:Type} {enc:TypeId×Value→H} {P:Program} (hl:laidOutB P=true) {f:Func} {s:ChangeSpec} {W W':World} {args:Array Value} {ds gs:List (DataW H)} {before:List MemPlace} {t4:TypeId}
 (hts:∀t∈f.params.toList,P.readableRec t=true∧t<P.types.size) (ahs:s.vars=[]) (hres:f.resultTypes = #[t4]) (h4:P.underlying t4=some .bool)
 (hW:DataW.Whole enc P f.params.toList s.vars false W args.toList ds gs before) (hb:Bw W W')
 (hfn:s.fn H (ds++gs)={results:=[.lit (.bool true)],args:=ds}) :
 s.post enc P f false true false false W args (.bool true) W':=by
 have Ue:=hW;obtain ⟨p,q,hA,hV,rfl,hz,hn⟩:=hW;have hlt:∀x∈p,x.block<W.heap.size:=fun x hx=>by simpa using Ue.lt x (by simp[hx])
 refine ⟨ds,gs,p++q,[],p,[],Ue,?_,?_,?_,hb.frame _,fun h=>by cases h⟩
 ·rw[hres,hfn]
  exact trodAll_mk1 (shut_bool h4 _)
 ·rw[hfn]
  exact tq hl hb _ _ _ _ hts hA hlt
 ·rw[ahs,hfn];rfl
end Go.Proofs.YtbigkioechkngaaGreat
