/- The proof, part 21. -/
import Derived.Test.YtbigkioechkngaaGreatQ12
set_option maxRecDepth 100000
set_option maxHeartbeats 8000000
namespace Go.Proofs.YtbigkioechkngaaGreat
open Go.RowKit
theorem oH (x y z:Int) (w:World):Calls Tryz.prog 181 #[.agg #[.int .i64 x,.int .i64 y,.int .i64 z]] w fun e w'=>e=.returned (.bool (jW ⟨x,y,z⟩))∧Bw w w':=by
 have hb:∀o,Bw w (w.alloc o):=fun o=>aH.alloc aT o;have HB:=aa hb;clear hb;have HG:Hid (jW ⟨x,y,z⟩=true↔if z=0∧y=0 then 0≤x∧x≤255 else x=0∧1≤y∧y≤255∧3≤z∧z≤18):=aa (by
  unfold jW;simp only;split <;> simp only[decide_eq_true_eq])
 obtain ⟨q,hq⟩:=aG (jW ⟨x,y,z⟩);rw[hq] at HG;rw[hq];clear hq;by_cases hA:z=0∧y=0
 ·obtain ⟨rfl,rfl⟩:=hA
  rw[if_pos ⟨rfl,rfl⟩] at HG;have hc:x<0∨0≤x:=by omega
  rcases hc with c1|c1
  all_goals
   go_enter Tryz.func181,Tryz.ntmps181;go_wp2_with fail;go_ret;refine ⟨aO ?_,HB _⟩;rw[Bool.eq_iff_iff,HG.o];simp <;> omega
 rw[if_neg hA] at HG;have hc:(¬x=0)∨(x=0∧y<1)∨(x=0∧1≤y∧255<y)∨(x=0∧1≤y∧y≤255∧z<3)∨(x=0∧1≤y∧y≤255∧3≤z):=by omega
 have hd:(z==0)=false∨(z=0∧(y==0)=false):=by
  by_cases e:z=0
  ·exact .inr ⟨e,by simp;exact fun h=>hA ⟨e,h⟩⟩
  ·exact .inl (by simp;exact e)
 clear hA;rcases hc with c|⟨rfl,c⟩|⟨rfl,c1,c2⟩|⟨rfl,c1,c2,c3⟩|⟨rfl,c1,c2,c3⟩
 ·have c5:(x==0)=false:=by simp;exact c
  rcases hd with hd|⟨rfl,hd⟩
  all_goals
   go_enter Tryz.func181,Tryz.ntmps181;go_wp2_with fail;go_ret;refine ⟨aO ?_,HB _⟩;rw[Bool.eq_iff_iff,HG.o];simp <;> omega
 all_goals
  rcases hd with hd|⟨rfl,hd⟩
  all_goals
   first
   |(exfalso;omega)
   |(go_enter Tryz.func181,Tryz.ntmps181
     go_wp2_with fail;go_ret;refine ⟨aO ?_,HB.o _⟩;rw[Bool.eq_iff_iff,HG.o];simp <;> omega)
theorem Ij {s:List UInt8} {pos d n:Nat} (h:¬(pos+n≤s.length∧d≤pos)):gF s pos d n=false:=by unfold gF;rw[decide_eq_false h];rfl
theorem OQ {s:List UInt8} {pos d n:Nat} (h:pos+n≤s.length∧d≤pos) (ha:∀i,i<n→s[pos+i]?=s[pos+i-d]?):gF s pos d n=true:=by unfold gF;rw[decide_eq_true h,Bool.true_and,List.all_eq_true];intro i hi;rw[ha i (List.mem_range.1 hi)];simp
theorem OT {s:List UInt8} {pos d n i:Nat} (hi:i<n) (h:s[pos+i]?≠s[pos+i-d]?):gF s pos d n=false:=by rw[← Bool.not_eq_true];intro ha;unfold gF at ha;simp only[Bool.and_eq_true,List.all_eq_true] at ha;exact h (by simpa using ha.2 i (List.mem_range.2 hi))
theorem S6 {s:ByteArray} {i:Nat} (h:i<s.size):s.data.toList[i]?=some s[i]:=by rw[List.getElem?_eq_getElem (by simpa using h)];rfl
theorem OU (s:ByteArray) (pos d n:Nat) (h1:s.size≤1000000) (h2:pos≤1000000) (h3:d≤255) (h4:n≤18) (h5:1≤d) (w:World):Calls Tryz.prog 228 #[.string s,.int .i64 pos,.int .i64 d,.int .i64 n] w fun e w'=>e=.returned (.bool (gF s.data.toList pos d n))∧Bw w w':=by
 have hsz:s.data.toList.length=s.size:=by simp
 have b1:(s.size:Int)≤1000000:=by omega
 have b2:(pos:Int)≤1000000:=by omega
 have b3:(d:Int)≤255:=by omega
 have b4:(n:Int)≤18:=by omega
 clear h1 h2 h3 h4;by_cases c1:(s.size:Int)<(pos:Int)+(n:Int)
 ·have HF:=aa (Ij (s:=s.data.toList) (pos:=pos) (d:=d) (n:=n) (by omega))
  clear hsz;go_enter Tryz.func228,Tryz.ntmps228;go_wp2_with fail;go_ret;exact ⟨aO HF.symm,aH⟩
 by_cases c2:(pos:Int)<(d:Int)
 ·have HF:=aa (Ij (s:=s.data.toList) (pos:=pos) (d:=d) (n:=n) (by omega))
  have c3:(pos:Int)+(n:Int)≤(s.size:Int):=by omega
  have c4:decide (pos<d)=true:=by simp;omega
  clear hsz c1;go_enter Tryz.func228,Tryz.ntmps228;go_wp2_with fail;go_ret;exact ⟨aO HF.symm,aH⟩
 have Ca:=aa (show pos+n≤s.data.toList.length∧d≤pos by omega);have c3:(pos:Int)+(n:Int)≤(s.size:Int):=by omega
 have c4:decide (pos<d)=false:=by simp;omega
 have c5:(d:Int)≤(pos:Int):=by omega
 clear hsz c1 c2;go_enter Tryz.func228,Tryz.ntmps228;go_wp2_with fail;go_loopw [9] (fun i wr=>∃k:Nat,k≤n∧i=.int .i64 k∧(∀i,i<k→s.data.toList[pos+i]?=s.data.toList[pos+i-d]?)∧Bw w wr) (fun i _=>n-(intOf i).toNat)
 case atStart=>exact ⟨0,dQ,rfl,fun i hi=>by omega,aH⟩
 case round=>
  obtain ⟨k,hk,rfl,hall,hb⟩:=hrel;have ez:=aa hall;have HB:=aa hb;clear hall hb;by_cases hlt:k<n
  ·have fO:(k:Int)<(n:Int):=by omega
   obtain ⟨q,hq⟩:=aG (pos+k);obtain ⟨r,hr⟩:=aG (q-d);have hqs:q<s.size:=by omega
   have hrs:r<s.size:=(by omega);have e1:IntKind.i64.wrap ((pos:Int)+(k:Int))=(q:Int):=by rw[IntKind.wrap_i64];omega
   have e2:IntKind.i64.wrap ((q:Int)-(d:Int))=(r:Int):=by rw[IntKind.wrap_i64];omega
   have hqi:(q:Int)<(s.size:Int):=(by omega);have hri:(r:Int)<(s.size:Int):=by omega
   have q0:(0:Int)≤(q:Int):=(by omega);have r0:(0:Int)≤(r:Int):=by omega
   have HQ:=aa (show s.data.toList[pos+k]?=some s[q] by rw[hq];exact S6 hqs);have HR:=aa (show s.data.toList[pos+k-d]?=some s[r] by rw[hq,hr];exact S6 hrs);clear hq hr;by_cases Ci:s[q]=s[r]
   ·have Q4:((s[q].toNat:Int) != (s[r].toNat:Int))=false:=by rw[Ci];simp
    have HXY:=aa Ci;clear Ci;go_wp2_with fail;go_quiet (fail);go_wp2_with fail;go_roundw
    case rel=>exact ⟨k+1,by omega,by go_num,fun i hi=>by
     by_cases e:i=k
     ·subst e;rw[HQ.o,HR.o,HXY.o]
     ·exact ez.o i (by omega),ay HB.o _⟩
    case measure=>simp[intOf];omega
   ·have Q4:((s[q].toNat:Int) != (s[r].toNat:Int))=true:=by
     simp only[bne_iff_ne,ne_eq];exact fun h=>Ci (UInt8.toNat_inj.1 (by omega))
    have HF:=aa (OT (s:=s.data.toList) (d:=d) hlt (by rw[HQ.o,HR.o];exact fun h=>Ci (by injection h)));clear Ci;go_wp2_with fail;go_quiet (fail);go_wp2_with fail;go_ret;exact ⟨aO HF.symm,ay HB _⟩
  ·obtain rfl:k=n:=by omega
   have HF:=aa (OQ Ca ez);go_wp2_with fail;go_ret;exact ⟨aO HF.symm,HB⟩
theorem K6 {s:List UInt8} {pos i d:Nat} (h:iX s pos (i+3) 1 255=some d):gZ s pos (i+1)=(i+3,d):=by rw[gZ,h]
theorem S7 {s:List UInt8} {pos i:Nat} (h:iX s pos (i+3) 1 255=none):gZ s pos (i+1)=gZ s pos i:=by rw[gZ,h]
theorem K7 {s:List UInt8} {pos n d m:Nat} (h:gF s pos d n=true):iX s pos n d (m+1)=some d:=by rw[iX,if_pos h]
theorem S8 {s:List UInt8} {pos n d m:Nat} (h:gF s pos d n=false):iX s pos n d (m+1)=iX s pos n (d+1) m:=by rw[iX,if_neg (by rw[h];simp)]
theorem K8 {a b a' b':Int} (h1:a=a') (h2:b=b'):Ending.returned (.tuple #[.int .i64 a,.int .i64 b])=.returned (.tuple #[.int .i64 a',.int .i64 b']):=by rw[h1,h2]
def afn (w:World) (s:List UInt8) (pos:Nat) (n:Value) (wr:World):Prop:=∃j:Nat,j≤16∧n=.int .i64 ((j:Int)+2)∧eJ s pos=gZ s pos j∧Bw w wr
def alk (w:World) (s:List UInt8) (pos i:Nat) (d:Value) (wr:World):Prop:=∃q m:Nat,d=.int .i64 (q:Int)∧1≤q∧q+m=256∧iX s pos (i+3) 1 255=iX s pos (i+3) q m∧Bw w wr
theorem Ik (s:ByteArray) (pos:Nat) (h1:s.size≤1000000) (h2:pos≤1000000) (w:World):Calls Tryz.prog 212 #[.string s,.int .i64 pos] w fun e w'=>e=.returned (.tuple #[.int .i64 ((eJ s.data.toList pos).1:Nat),.int .i64 ((eJ s.data.toList pos).2:Nat)])∧Bw w w':=by
 have hsz:s.data.toList.length=s.size:=by simp
 have b1:(s.size:Int)≤1000000:=by omega
 have b2:(pos:Int)≤1000000:=by omega
 have ez:=aa (fun (d n:Nat) (h3:d≤255) (h4:n≤18) (h5:1≤d) (W:World)=>OU s pos d n h1 h2 h3 h4 h5 W);clear h1 h2;by_cases c1:(pos:Int)<(s.size:Int)
 case neg=>
  have HF:=aa (show eJ s.data.toList pos=(0,0) by unfold eJ;rw[if_neg (by omega)]);have c2:decide ((pos:Int)≥(s.size:Int))=true:=by simp;omega
  have c3:decide (s.size≤pos)=true:=by simp;omega
  clear hsz c1;go_enter Tryz.func212,Tryz.ntmps212;go_wp2_with fail;go_ret2;exact ⟨K8 (by rw[HF.o];rfl) (by rw[HF.o];rfl),aH⟩
 have HF:=aa (show eJ s.data.toList pos=gZ s.data.toList pos 16 by unfold eJ;rw[if_pos (by omega)]);have c3:decide (s.size≤pos)=false:=by simp;omega
 clear hsz c1;obtain ⟨l,hl⟩:=aG s.data.toList;rw[hl] at HF ez;rw[hl];clear hl;go_enter Tryz.func212,Tryz.ntmps212;go_wp2_with fail;go_loopw [6,7] (fun n _ wr=>afn w l pos n wr) (fun n _ _=>(intOf n).toNat)
 case atStart=>exact ⟨16,aT,rfl,HF,aH⟩
 case round=>
  obtain ⟨j,hj,rfl,zM,hb⟩:=hrel;have JT:=aa zM;have HB:=aa hb;clear zM hb;have alm:(j:Int)≤16:=by omega
  by_cases hlt:0<j
  ·obtain ⟨i,rfl⟩:∃i,j=i+1:=⟨j-1,by omega⟩
   have MW:((i+1:Nat):Int)+2=((i+3:Nat):Int):=(by omega);rw[MW];have h18:((i+3:Nat):Int)≤18:=by omega
   have h3:(3:Int)≤((i+3:Nat):Int):=(by omega);have HI:=aa (show i+3≤18 by omega);obtain ⟨n,hn⟩:=aG (i+3);rw[hn] at h18 h3 HI;rw[hn];have HN:=aa hn;clear hn MW alm hj hlt;obtain ⟨wo,rfl⟩:∃wo:World,wo=wr:=⟨_,rfl⟩
   go_wp2_with fail;go_loopw [7] (fun d wi=>alk w l pos i d wi) (fun d _=>256-(intOf d).toNat)
   case atStart=>exact ⟨1,255,rfl,aT,rfl,rfl,HB⟩
   case round=>
    obtain ⟨q,m,rfl,hq1,hqm,XP,hb⟩:=hrel;have HDI:=aa XP;have bU:=aa hb;clear XP hb;by_cases jh:0<m
    ·obtain ⟨m,rfl⟩:∃k,m=k+1:=⟨m-1,by omega⟩
     have apb:(q:Int)≤255:=(by omega);cases ha:gF l pos q n with
     |true=>have HA:=aa ha;have HR:=aa (show eJ l pos=(n,q) by rw[JT.o,← HN.o];exact K6 (by rw[HDI.o];exact K7 (by rw[HN.o];exact ha)));clear ha;go_wp2_with (go_at_call 228;(with_reducible refine (ez.o q n (by omega) HI.o hq1 _).mono ?_);rintro e w5 ⟨rfl,aR⟩;rw[HA.o];have bA:=aa aR;clear aR);go_ret2;exact ⟨K8 (by rw[HR.o]) (by rw[HR.o]),ak bU bA⟩
     |false=>
      have HA:=aa ha;have C2:=aa (show iX l pos (i+3) 1 255=iX l pos (i+3) (q+1) m by rw[HDI.o];exact S8 (by rw[HN.o];exact ha));clear ha;go_wp2_with (go_at_call 228;(with_reducible refine (ez.o q n (by omega) HI.o hq1 _).mono ?_);rintro e w5 ⟨rfl,aR⟩;rw[HA.o];have bA:=aa aR;clear aR);go_roundw
      case rel=>exact ⟨q+1,m,by go_num,by omega,by omega,C2.o,ak bU.o bA.o⟩
      case measure=>simp[intOf];omega
    ·obtain rfl:m=0:=by omega
     have nW:=aa (show eJ l pos=gZ l pos i by rw[JT.o];exact S7 (by rw[HDI.o];rfl));obtain rfl:q=256:=by omega
     go_wp2_with fail;go_roundw
     case rel=>exact ⟨i,by have:=HI.o;have:=HN.o;omega,by have:=HN.o;congr 1;omega,nW,bU⟩
     case measure=>have:=HN.o;simp[intOf];omega
  ·obtain rfl:j=0:=by omega
   have HR:=aa (show eJ l pos=(0,0) by rw[JT.o];rfl);go_wp2_with fail;go_ret2;exact ⟨K8 (by rw[HR.o];rfl) (by rw[HR.o];rfl),HB⟩
def gW (t:jR):List Value:=[.int .i64 t.byte,.int .i64 t.yT,.int .i64 t.len]
theorem E2 (t:jR):(gW t).length=3:=rfl
theorem E3 (t:jR):∀u∈gW t,u.oneCell'=true:=by intro u hu;unfold gW at hu;simp only[List.mem_cons,List.not_mem_nil,or_false] at hu;rcases hu with rfl|rfl|rfl <;> rfl
theorem Wz:(Tryz.prog.info? 226).map (fun i=>(i.zero,i.size,i.bytes))=some (some (.agg #[.int .i64 0,.int .i64 0,.int .i64 0]),3,24):=by kernel_rfl
theorem A0 (W:World) (B n:Nat) (v:Value) (l:List jR) (t:jR) (hown:W.ownsRow B 226 3 v n (bn gW l)) (hn:n≤100000000) (hB:B≤W.heap.size) :
 ∃g cap w2,(Builtin.append_ #[189,189] 189 #[v,.slice (some ⟨W.heap.size,0,none⟩) 1 1]).run Tryz.prog (W.alloc (.cells #[.int .i64 t.byte,.int .i64 t.yT,.int .i64 t.len] 226))=.ok (.slice (some ⟨g,0,none⟩) (n+1) cap) w2∧ky W w2 B n 226 3 v (bn gW l) (gW t) g cap:=by
 obtain ⟨i0,iP,hz0,hz1,hz2⟩:=info_parts Wz;exact eY 189 226 i0 _ 3 24 Tryz.underlying189 iP hz0 hz1 hz2 rfl (by decide) (by decide) W B n v (bn gW l) (gW t) hown rfl (E3 t) hn hB
def afp (w:World) (s:List UInt8) (n:Nat) (v i:Value) (wr:World):Prop:=
 ∃(k m:Nat) (pre:List jR),k≤n∧i=.int .i64 k∧m=pre.length∧m≤k∧wr.ownsRow w.heap.size 226 3 v m (bn gW pre)∧pre++eK s k=eK s 0∧Bw w wr
theorem OV (s:ByteArray) (hs:s.size≤1000000) (w:World):Calls Tryz.prog 183 #[.string s] w fun e w'=>∃v,e=.returned v∧w'.ownsRow w.heap.size 226 3 v (eK s.data.toList 0).length (bn gW (eK s.data.toList 0))∧Bw w w':=by
 have hsz:s.data.toList.length=s.size:=by simp
 obtain ⟨N,hN⟩:=aG s.size;have b1:(N:Int)≤1000000:=by omega
 have HNS:=aa hN;have HS:=aa hs;have mW:=aa hsz;have hNi:(s.size:Int)=(N:Int):=by omega
 have bY:=aa (World.ownsRow_made w #[] 0 (Nat.le_refl w.heap.size) (by unfold maxLen;omega) rfl:(w.alloc (.cells #[] 226)).ownsRow w.heap.size 226 3 (.slice (some ⟨w.heap.size,0,none⟩) 0 0) 0 []);clear hs hsz hN;go_enter Tryz.func183,Tryz.ntmps183;go_wp2_with fail;go_loopw [3,4,5,6] (fun v i _ _ wr=>afp w s.data.toList N v i wr) (fun _ i _ _ _=>N-(intOf i).toNat)
 case atStart=>exact ⟨0,0,[],dQ,rfl,rfl,aT,bY,rfl,aq⟩
 case round=>
  obtain ⟨k,m,pre,hk,rfl,hm,jP,hrow,hsp,hb⟩:=hrel;have HM:=aa hm;have JU:=aa jP;have HR:=aa hrow;have S9:=aa hsp;have HB:=aa hb;clear hm jP hrow hsp hb bY;by_cases hlt:k<N
  ·have fO:(k:Int)<(N:Int):=by omega
   have QH:k<s.data.toList.length:=by rw[mW.o,HNS.o];exact hlt
   have HC:=aa (fun W=>Ik s k HS (by have:=HS.o;have:=HNS.o;omega) W);have iO:=GM s.data.toList k;have WB:k<s.size:=by rw[HNS.o];exact hlt
   by_cases hz:(eJ s.data.toList k).1=0
   ·have mA:=aa (xO QH hz)
    have he:(s.data.toList[k]).toNat=s[k].toNat:=rfl;rw[he] at mA;have HL0:Hid (eJ s.data.toList k=(0,0)):=aa (by rcases iO with e|⟨e,_⟩;exact e;omega);clear iO hz QH he;obtain ⟨z,hzz⟩:=aG (s[k].toNat);have Cp:(s[k].toNat:Int)=(z:Int):=by rw[hzz]
    have apc:(z:Int)≤255:=by have:=s[k].toNat_lt;omega
    rw[hzz] at mA;clear hzz;have HT:=aa (fun (W:World) (hb:Bw wr W)=>A0 W w.heap.size m _ pre ⟨(z:Nat),0,0⟩ (aM HR hb) (by have:=JU.o;omega) (Nat.le_trans HB.size hb.size));go_upto_region 6 with (go_at_call 212;(with_reducible refine (HC.o _).mono ?_);rintro e w5 ⟨rfl,aR⟩;rw[HL0.o];have bA:=aa aR;clear aR);obtain ⟨g,cp,w2,hrun,cj⟩:=HT.o _ bA.o;have dM:=aa hrun;have yY:=aa cj;clear hrun cj;go_wp2_with (at_builtin;refine Lib.wpList_append_run _ rfl _ _ _ _ rfl _ _ rfl rfl _ _ dM.o ?_);go_roundw
    case rel=>exact ⟨k+1,m+1,pre++[⟨(z:Nat),0,0⟩],by omega,by go_num,by rw[List.length_append,HM.o];rfl,by have:=JU.o;omega,by rw[← fF];exact yY.o.row,by rw[← S9.o,mA.o,List.append_assoc];rfl,(ak HB.o bA.o).trans yY.o.below⟩
    case measure=>simp[intOf];omega
   ·have mA:=aa (xP QH hz)
    have Z8:3≤(eJ s.data.toList k).1∧(eJ s.data.toList k).1≤18∧k+(eJ s.data.toList k).1≤N:=by
     rcases iO with e|⟨e1,e2,_,_,e5⟩
     ·rw[e] at hz;exact absurd rfl hz
     ·have:=GN e5;rw[mW.o,HNS.o] at this;exact ⟨e1,e2,this.1⟩
    obtain ⟨⟨a,d⟩,had⟩:∃x,eJ s.data.toList k=x:=⟨_,rfl⟩
    rw[had] at Z8 mA;have HL0:=aa had;simp only at Z8 mA;obtain ⟨a3,a18,akN⟩:=Z8;have a3i:(3:Int)≤(a:Int):=by omega
    have asy:(a:Int)≤18:=(by omega);have aki:(k:Int)+(a:Int)≤(N:Int):=by omega
    have hnz:((a:Int)==0)=false:=by simp;omega
    clear iO hz QH had;have HT:=aa (fun (W:World) (hb:Bw wr W)=>A0 W w.heap.size m _ pre ⟨0,(d:Nat),(a:Nat)⟩ (aM HR hb) (by have:=JU.o;omega) (Nat.le_trans HB.size hb.size));go_upto_region 8 with (go_at_call 212;(with_reducible refine (HC.o _).mono ?_);rintro e w5 ⟨rfl,aR⟩;rw[HL0.o];have bA:=aa aR;clear aR);obtain ⟨g,cp,w2,hrun,cj⟩:=HT.o _ bA.o;have dM:=aa hrun;have yY:=aa cj;clear hrun cj;go_wp2_with (at_builtin;refine Lib.wpList_append_run _ rfl _ _ _ _ rfl _ _ rfl rfl _ _ dM.o ?_);go_roundw
    case rel=>exact ⟨k+a,m+1,pre++[⟨0,(d:Nat),(a:Nat)⟩],by omega,by go_num,by rw[List.length_append,HM.o];rfl,by have:=JU.o;omega,by rw[← fF];exact yY.o.row,by rw[← S9.o,mA.o,List.append_assoc];rfl,(ak HB.o bA.o).trans yY.o.below⟩
    case measure=>simp[intOf];omega
  ·have HE:=aa (show pre=eK s.data.toList 0 by
    have:=S9.o;rw[tJ (by rw[mW.o,HNS.o];exact hlt),List.append_nil] at this;exact this)
   have CO:=aa (show (eK s.data.toList 0).length=m by rw[← HE.o,HM.o]);have js:=aa (show wr.ownsRow w.heap.size 226 3 _ (eK s.data.toList 0).length (bn gW (eK s.data.toList 0)) by rw[CO.o,← HE.o];exact HR);obtain rfl:k=N:=by omega
   go_wp2_with fail;go_ret;exact ⟨_,rfl,js,HB⟩
theorem Il {α:Type} {l:List α} {k:Nat} {x:α} (h:l[k]?=some x):l.drop k=x::l.drop (k+1):=by obtain ⟨hlt,rfl⟩:=List.getElem?_eq_some_iff.1 h;exact List.drop_eq_getElem_cons hlt
def MZ (W:World) (b:Nat) (x y z:Int):Prop:=W.cell? ⟨b,0,none⟩=some (.int .i64 x)∧W.cell? ⟨b,1,none⟩=some (.int .i64 y)∧W.cell? ⟨b,2,none⟩=some (.int .i64 z)
theorem MZ.new (W:World) (x y z:Int) (T:TypeId):MZ (W.alloc (.cells #[.int .i64 x,.int .i64 y,.int .i64 z] T)) W.heap.size x y z:=⟨by simp,by simp,by simp⟩
end Go.Proofs.YtbigkioechkngaaGreat
