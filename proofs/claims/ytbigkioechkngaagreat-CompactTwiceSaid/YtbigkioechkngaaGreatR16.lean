/- The proof, part 17. -/
import Derived.Test.YtbigkioechkngaaGreatR12
set_option maxRecDepth 100000
set_option maxHeartbeats 8000000
namespace Go.Proofs.YtbigkioechkngaaGreat
open Go.RowKit Tryz
variable {e:Ending}{s x:Int}{c:List (Int×Int)}{l:List Int}{k n:Nat}{o:Option (List Bool)}{w w':World}{t:jL}
def kO (x:Int×Int):List Value:=[.int .i64 x.1,.int .i64 x.2]
theorem wB (x:Int×Int):(kO x).length=2:=rfl
theorem Oj (x:Int×Int):∀u∈kO x,u.oneCell'=true:=by intro u hu;unfold kO at hu;simp only[List.mem_cons,List.not_mem_nil,or_false] at hu;rcases hu with rfl|rfl <;> rfl
theorem SD:(prog.info? 257).map (fun i=>(i.zero,i.size,i.bytes))=some (some (.agg #[.int .i64 0,.int .i64 0]),2,16):=by kernel_rfl
theorem Hp (W:World) (B n:Nat) (v:Value) (l:List (Int×Int)) (x y:Int) (hown:W.ownsRow B 257 2 v n (bk kO l)) (hn:n≤100000000) (hB:B≤W.heap.size) :
 ∃g cap w2,(Builtin.append_ #[253,253] 253 #[v,.slice (some ⟨W.heap.size,0,none⟩) 1 1]).run prog (W.alloc (.cells #[.int .i64 x,.int .i64 y] 257))=.ok (.slice (some ⟨g,0,none⟩) (n+1) cap) w2∧ku W w2 B n 257 2 v (bk kO l) (kO (x,y)) g cap:=by
 obtain ⟨i0,iM,hz0,hz1,hz2⟩:=info_parts SD;exact eV 253 257 i0 _ 2 16 underlying253 iM hz0 hz1 hz2 rfl (by decide) (by decide) W B n v (bk kO l) (kO (x,y)) hown rfl (Oj _) hn hB
theorem KD {α:Type} {f:α→List Value} (hf:∀x,(f x).length=2) {l:List α} {i:Nat} {x:α} {a b:Value} (hi:i<l.length) (hx:f x=[a,b]):((bk f l).set (i*2) a).set (i*2+1) b=bk f (l.set i x):=by
 unfold bk;have hall:nB 2 (l.map f):=fun q hq=>by obtain ⟨y,_,rfl⟩:=List.mem_map.1 hq;exact hf y
 obtain ⟨u,v,huv⟩:∃u v,f l[i]=[u,v]:=by
  have:=hf l[i]
  match h:f l[i],this with
  |[u,v],_=>exact ⟨u,v,rfl⟩
 have h1:(l.map f)[i]?=some [u,v]:=by rw[List.getElem?_map,List.getElem?_eq_getElem hi,← huv];rfl
 have e1:=pU (r:=0) a hall h1 (by decide);rw[Nat.add_zero] at e1;rw[e1];have aeJ:nB 2 ((l.map f).set i ([u,v].set 0 a)):=fun q hq=>by
  rcases List.mem_or_eq_of_mem_set hq with hq|rfl
  ·exact hall q hq
  ·rfl
 have h2:((l.map f).set i ([u,v].set 0 a))[i]?=some [a,v]:=by rw[List.getElem?_set_self (by rw[List.length_map];exact hi)];rfl
 have e2:=pU (r:=1) b aeJ h2 (by decide);rw[e2,List.set_set,List.map_set,hx];rfl
theorem VW {α:Type} {B g cap:Nat} {e:TypeId} {f:α→List Value} (hf:∀x,(f x).length=2) {l:List α} (h:w.ownsRow B e 2 (.slice (some ⟨g,0,none⟩) n cap) n (bk f l)) {i:Nat} {x:α} {a b:Value} (hi:i<l.length) (hx:f x=[a,b]) :
 ((w.setCell ⟨g,i*2,none⟩ a).setCell ⟨g,i*2+1,none⟩ b).ownsRow B e 2 (.slice (some ⟨g,0,none⟩) n cap) n (bk f (l.set i x)):=by
 have hlen:=lI hf l;have h1:=lU h (i*2) a (by omega);have h2:=lU h1 (i*2+1) b (by rw[List.length_set];omega);rw[KD hf hi hx] at h2;exact h2
def nI (w:World) (o:Option (List (Int×Int))) (e:Ending) (w':World):Prop:=match o with
 |none=>e=.returned (.tuple #[.slice none 0 0,.bool false])∧Bw w w'
 |some l=>∃v,e=.returned (.tuple #[v,.bool true])∧w'.ownsRow w.heap.size 257 2 v l.length (bk kO l)∧Bw w w'
theorem nI.no {o:Option (List (Int×Int))} (h:o=none) (hb:Bw w w'):nI w o (.returned (.tuple #[.slice none 0 0,.bool false])) w':=by subst h;exact ⟨rfl,hb⟩
theorem nI.yes {o:Option (List (Int×Int))} {l:List (Int×Int)} {v:Value} (h:o=some l) (hn:l.length=n) (hr:w'.ownsRow w.heap.size 257 2 v n (bk kO l)) (hb:Bw w w'):nI w o (.returned (.tuple #[v,.bool true])) w':=by subst h;subst hn;exact ⟨v,rfl,hr,hb⟩
theorem Ol (h:¬l.length≤300):gK l=none:=by unfold gK;rw[if_neg];unfold rP;simp only[Bool.and_eq_true,decide_eq_true_eq];exact fun h2=>h h2.1.1
theorem Om (hx:l[k]?=some x) (h:¬(0≤x∧x≤15)):gK l=none:=by unfold gK;rw[if_neg];unfold rP;simp only[Bool.and_eq_true,decide_eq_true_eq,List.all_eq_true];exact fun h2=>h (h2.1.2 x (List.mem_of_getElem? hx))
theorem KE (h:¬iz l≤32768):gK l=none:=by unfold gK;rw[if_neg];unfold rP;simp only[Bool.and_eq_true,decide_eq_true_eq];exact fun h2=>h h2.2
theorem Oo (h1:l.length≤300) (h2:∀(j:Nat) x,j<l.length→l[j]?=some x→0≤x∧x≤15) (h3:iz l≤32768):gK l=some (k7 l 15 1 (List.replicate l.length (0,0)) 0):=by unfold gK;rw[if_pos];unfold rP;simp only[Bool.and_eq_true,decide_eq_true_eq,List.all_eq_true];refine ⟨⟨h1,fun x hx=>?_⟩,h3⟩;obtain ⟨j,hj⟩:=List.getElem?_of_mem hx;exact h2 j x (List.getElem?_eq_some_iff.1 hj).1 hj
theorem KF {n:Int} {out:List (Int×Int)} {nx:Int} (hx:l[k]?=some x):iA n (l.drop k) k out nx=if x=n then iA n (l.drop (k+1)) (k+1) (out.set k (n,nx)) (nx+1) else iA n (l.drop (k+1)) (k+1) out nx:=by rw[Ho hx,iA]
def Zr (w:World) (l:List Int) (N:Nat) (v i:Value) (wr:World):Prop:=
 ∃(k g cap:Nat),k≤N∧i=.int .i64 k∧v=.slice (some ⟨g,0,none⟩) k cap∧wr.ownsRow w.heap.size 257 2 (.slice (some ⟨g,0,none⟩) k cap) k (bk kO (List.replicate k (0,0)))∧(∀(j:Nat) x,j<k→l[j]?=some x→0≤x∧x≤15)∧Bw w wr
def Zt (w:World) (l:List Int) (N g cap:Nat) (nx n:Value) (wr:World):Prop:=
 ∃(m:Nat) (y:Int) (out:List (Int×Int)),m≤15∧n=.int .i64 ((m:Int)+1)∧nx=.int .i64 y∧0≤y∧Hid (y≤iP m)∧out.length=N∧wr.ownsRow w.heap.size 257 2 (.slice (some ⟨g,0,none⟩) N cap) N (bk kO out)∧k7 l (15-m) ((m:Int)+1) out y=k7 l 15 1 (List.replicate N (0,0)) 0∧Bw w wr
def Zu (w:World) (l:List Int) (N g cap:Nat) (n y:Int) (t:List (Int×Int)×Int) (nx i:Value) (wr:World):Prop:=
 ∃(k:Nat) (z:Int) (out:List (Int×Int)),k≤N∧i=.int .i64 k∧nx=.int .i64 z∧0≤z∧Hid (z≤y+k)∧out.length=N∧wr.ownsRow w.heap.size 257 2 (.slice (some ⟨g,0,none⟩) N cap) N (bk kO out)∧iA n (l.drop k) k out z=t∧Bw w wr
theorem KG {y:Int} {m:Nat} (h0:0≤y) (h:y≤iP m) (hm:m≤15):wrap64 (2*y)=2*y:=by
 have h1:=tJ hm;have e:iP 15≤1000000000:=by decide
 unfold wrap64;omega
theorem Hq {y z:Int} {m:Nat} (h0:0≤z) (hz:z≤2*y+k) (h:y≤iP m) (hm:m≤15) (hk:k≤300):wrap64 (z+1)=z+1:=by
 have h1:=tJ hm;have e:iP 15≤1000000000:=by decide
 unfold wrap64;omega
theorem Oq (l:List Int) (v1:Value) (w:World) (h1:fA w v1 l) (hl:l.length≤1000):Calls prog 207 #[v1] w (nI w (gK l)):=by
 have HV:=aa h1;obtain ⟨p,c,rfl,hc1,hc2,ha⟩:=h1;have HA:=aa ha;obtain ⟨N,hN⟩:=aG l.length;rw[hN] at hc1 hl HV;rw[hN];have HN:=aa hN;clear ha;have b0:(N:Int)≤1000:=by omega
 by_cases h300:N≤300
 case neg=>
  have HF:=aa (Ol (l:=l) (by rw[hN];exact h300));have d1:decide ((N:Int)>300)=true:=by simp;omega
  have d2:decide (300<N)=true:=by simp;omega
  have d3:(300:Int)<(N:Int):=by omega
  clear hN hl hc1 hc2 h300;go_enter func207,ntmps207;go_wp2_with fail;refine au (nI.no HF aH) ?_;simp[results,results207,go_sem]
 have HK:=aa (fun W (hb:Bw w W)=>Kv l _ W (HV.keep (af hb)) (by rw[hN];exact h300));have b1:(N:Int)≤300:=by omega
 have VX:=aa h300;have d2:decide (300<N)=false:=by simp;omega
 clear hN hl hc1 hc2 h300;have xe:=aa (World.ownsRow_made w #[] 0 (Nat.le_refl w.heap.size) (by unfold maxLen;omega) rfl:(w.alloc (.cells #[] 257)).ownsRow w.heap.size 257 2 (.slice (some ⟨w.heap.size,0,none⟩) 0 0) 0 []);go_enter func207,ntmps207;go_wp2_with fail;go_loopw [4,5] (fun v i wr=>Zr w l N v i wr) (fun _ i _=>N-(intOf i).toNat)
 case atStart=>exact ⟨0,_,_,dO,rfl,rfl,xe,fun j x hj=>by omega,ar⟩
 case round=>
  obtain ⟨k,g,cap,hk,rfl,rfl,hrow,hall,hb⟩:=hrel;have bU:=aa hrow;have pN:=aa hall;have HB:=aa hb;clear hrow hall hb xe;by_cases hlt:k<N
  ·have fN:(k:Int)<(N:Int):=by omega
   obtain ⟨x,hx⟩:=fx (l:=l) (k:=k) (by rw[HN.o];exact hlt);obtain ⟨Su,g1,o,rfl,r0⟩:=HA.o k x hx;replace r0:=ae HB r0;have HX:=aa hx;clear hx Su;by_cases pM:0≤x∧x≤15
   ·obtain ⟨x0,x15⟩:=pM
    obtain ⟨g2,c2,w2,hrun,bY⟩:=Hp wr w.heap.size k _ (List.replicate k (0,0)) 0 0 bU (by have:=VX.o;omega) HB.size;have dJ:=aa hrun;have mX:=aa (show w2.ownsRow w.heap.size 257 2 (.slice (some ⟨g2,0,none⟩) (k+1) c2) (k+1) (bk kO (List.replicate (k+1) (0,0))) by rw[List.replicate_succ',← fC];exact bY.row);have bS:=aa (HB.trans bY.below);clear hrun bY;have D9:decide (x<0)=false:=by simp;omega
    go_wp2_with (at_builtin;refine Lib.wpList_append_run _ rfl _ _ _ _ rfl _ _ rfl rfl _ _ dJ.o ?_);go_roundw
    case rel=>exact ⟨k+1,_,_,by omega,by go_num,rfl,mX.o,fun j y hj hy=>by
     by_cases e:j=k
     ·subst e;rw[HX.o] at hy;cases hy;exact ⟨x0,x15⟩
     ·exact pN.o j y (by omega) hy,bS.o⟩
    case measure=>simp[intOf];omega
   ·have HF:=aa (Om HX pM)
    have hc:x<0∨(¬x<0∧15<x):=(by omega);clear pM;rcases hc with c1|⟨c1,c2⟩
    ·have D9:decide (x<0)=true:=by simp;omega
     go_wp2_with fail;refine au (nI.no HF HB) ?_;simp[results,results207,go_sem]
    ·have D9:decide (x<0)=false:=by simp;omega
     go_wp2_with fail;refine au (nI.no HF HB) ?_;simp[results,results207,go_sem]
  ·obtain rfl:k=N:=by omega
   by_cases Uj:iz l≤32768
   case neg=>
    have HF:=aa (KE Uj);have D9:decide (32768<iz l)=true:=by simp;omega
    clear Uj;go_wp2_with (go_at_call 223;(refine (HK.o _ HB.o).mono ?_);rintro e w5 ⟨rfl,aR⟩;have bp:=bh HB aR;clear aR);refine au (nI.no HF bp) ?_;simp[results,results207,go_sem]
   have HF:=aa (Oo (l:=l) (by rw[HN.o];exact VX) (fun j x hj hx=>pN j x (by rw[HN.o] at hj;exact hj) hx) Uj);have D9:decide (32768<iz l)=false:=by simp;omega
   rw[HN.o] at HF;clear Uj;go_wp2_with (go_at_call 223;(refine (HK.o _ HB.o).mono ?_);rintro e w5 ⟨rfl,aR⟩;have bp:=bh HB aR;have aeK:=aa (aL bU.o aR);clear aR);clear D9;go_loopw [6,7,8] (fun nx n _ wy=>Zt w l k g cap nx n wy) (fun _ n _ _=>16-(intOf n).toNat)
   case atStart=>exact ⟨0,0,List.replicate k (0,0),by omega,rfl,rfl,Int.le_refl _,aa (Int.le_refl _),by simp,aeK,rfl,bp⟩
   case round=>
    obtain ⟨m,y,out,hm,rfl,rfl,hy0,hy,hol,hrow,hcg,hb⟩:=hrel;have HY:=hy;have HOL:=aa hol;have Ua:=aa hrow;have HCG:=aa hcg;have vE:=aa hb;clear hy hol hrow hcg hb;by_cases iZ:m<15
    ·have Yp:(m:Int)+1≤15:=by omega
     have Yz:=KG hy0 HY hm;obtain ⟨t,ht⟩:=aG (iA ((m:Int)+1) l 0 out (2*y));have aeM:=aa (show k7 l (15-(m+1)) ((m:Int)+1+1) t.1 t.2=k7 l 15 1 (List.replicate k (0,0)) 0 by
      rw[← HCG.o,show 15-m=(15-(m+1))+1 by omega,k7,ht])
     have HT:=aa ht;have HWY:=aa Yz;have Nw:0≤2*y:=by omega
     obtain ⟨wo,rfl⟩:∃wo:World,wo=wr:=⟨_,rfl⟩
     clear ht;go_wp2_with fail;go_loopw [6,8] (fun nx i wz=>Zu w l k g cap ((m:Int)+1) (2*y) t nx i wz) (fun _ i _=>k-(intOf i).toNat)
     case atStart=>exact ⟨0,2*y,out,dO,rfl,by rw[Yz],Nw,aa (by omega),HOL,Ua,HT,vE⟩
     case round=>
      obtain ⟨j,z,o2,hj,rfl,rfl,hz0,hz,hol,hrow,hst,hb⟩:=hrel;have HZ:=hz;have SE:=aa hol;have Hr:=aa hrow;have HST:=aa hst;have bS:=aa hb;clear hz hol hrow hst hb;by_cases hlt3:j<k
      ·have Gg:(j:Int)<(k:Int):=by omega
       obtain ⟨x,hx⟩:=fx (l:=l) (k:=j) (by rw[HN.o];exact hlt3);obtain ⟨_,g1,o1,rfl,r0⟩:=HA.o j x hx;replace r0:=ae bS r0;have yn:=aa (KF (n:=(m:Int)+1) (out:=o2) (nx:=z) hx);clear hx;by_cases zE:x=(m:Int)+1
       ·have D9:(x==(m:Int)+1)=true:=by simp[zE]
        rw[if_pos zE] at yn;have Rv:=aa (VW wB Hr (i:=j) (x:=((m:Int)+1,z)) (by rw[SE.o];exact hlt3) rfl);obtain ⟨q,hq⟩:=fx (l:=o2) (k:=j) (by rw[SE.o];exact hlt3);have hcq:∀i u,(kO q)[i]?=some u→wr.cell? ⟨g,j*2+i,none⟩=some u:=fun i u hi=>by obtain ⟨h6,h7⟩:=List.getElem?_eq_some_iff.1 (eN wB o2 j q i u hq hi);rw[bG Hr.o _ h6,h7]
        have s0:wr.cell? ⟨g,j*2,none⟩=some (.int .i64 q.1):=hcq 0 _ rfl;have s1:wr.cell? ⟨g,j*2+1,none⟩=some (.int .i64 q.2):=hcq 1 _ rfl;have f0:=gj Hr (j*2);have f1:=gj Hr (j*2+1);have HZW:=aa (Hq hz0 HZ HY hm (by have:=VX.o;omega));have hzw:=HZW.o;have dF:=aa (show Bw w ((wr.setCell ⟨g,j*2,none⟩ (.int .i64 ((m:Int)+1))).setCell ⟨g,j*2+1,none⟩ (.int .i64 z)) from (bS.setCell (Hr.lt g rfl).1 _).setCell (Hr.lt g rfl).1 _);have HZ1:=aa (show z+1≤2*y+((j+1:Nat):Int) by have:=HZ.o;omega);clear hcq hq zE;go_wp2_with fail;go_roundw
        case rel=>exact ⟨j+1,z+1,_,by omega,by go_num,by rw[HZW.o],by omega,aa HZ1.o,by rw[List.length_set];exact SE.o,Rv.o,by rw[← HST.o,yn.o],dF.o⟩
        case measure=>simp[intOf];omega
       ·have D9:(x==(m:Int)+1)=false:=by simp[zE]
        rw[if_neg zE] at yn;have HZ1:=aa (show z≤2*y+((j+1:Nat):Int) by have:=HZ.o;omega);clear zE;go_wp2_with fail;go_roundw
        case rel=>exact ⟨j+1,z,_,by omega,by go_num,rfl,hz0,aa HZ1.o,SE.o,Hr.o,by rw[← HST.o,yn.o],bS.o⟩
        case measure=>simp[intOf];omega
      ·obtain rfl:j=k:=by omega
       have Yv:=aa (show t=(o2,z) by rw[← HST.o,List.drop_of_length_le (by rw[HN.o];exact aT)];rfl);rw[Yv.o] at aeM;have xN:=aa (show z≤iP (m+1) by
        have h1:=HZ.o;have h2:=HY.o;have h3:=VX.o;have e:iP (m+1)=2*iP m+300:=rfl;omega)
       go_wp2_with fail;go_roundw
       case rel=>exact ⟨m+1,z,o2,by omega,by go_num,rfl,hz0,aa xN.o,SE.o,Hr.o,by have:=aeM.o;rw[← this];congr 1,bS.o⟩
       case measure=>simp[intOf];omega
    ·obtain rfl:m=15:=by omega
     have KH:=aa (show gK l=some out by rw[HF.o,← HCG.o];rfl);go_wp2_with fail;refine au (nI.yes KH HOL Ua vE) ?_;simp[results,results207,go_sem]
theorem Ot (h:gK l=none):jV l s=none:=by unfold jV;rw[h]
theorem tL (h:gK l=some c) (h2:¬(0≤s∧s<l.length∧¬(l[s.toNat]?).getD 0=0)):jV l s=none:=by unfold jV;rw[h];simp only;rw[if_neg h2]
theorem Ou {y:Int×Int} (h:gK l=some c) (hx:l[k]?=some x) (h0:¬x=0) (hy:c[k]?=some y):jV l k=sF [] y.2 y.1:=by unfold jV;rw[h];simp only;have:=(List.getElem?_eq_some_iff.1 hx).1;rw[if_pos ⟨by omega,by omega,by rw[Int.toNat_natCast,hx];exact h0⟩,Int.toNat_natCast,hy];rfl
theorem Ov {B g cap:Nat} {e:TypeId} (h:w.ownsRow B e 2 (.slice (some ⟨g,0,none⟩) n cap) n (bk kO c)) {y:Int×Int} (hy:c[k]?=some y):w.cell? ⟨g,k*2,none⟩=some (.int .i64 y.1)∧w.cell? ⟨g,k*2+1,none⟩=some (.int .i64 y.2):=by
 have hc:∀j u,(kO y)[j]?=some u→w.cell? ⟨g,k*2+j,none⟩=some u:=fun j u hj=>by obtain ⟨h6,h7⟩:=List.getElem?_eq_some_iff.1 (eN wB c k y j u hy hj);rw[bG h _ h6,h7]
 exact ⟨hc 0 _ rfl,hc 1 _ rfl⟩
theorem cN.below {W W':World} (hb:Bw w W) (h:cN W o e W'):cN w o e W':=by
 unfold cN at *;cases o with
 |none=>exact ⟨h.1,ak hb h.2⟩
 |some l=>obtain ⟨v,h1,h2,h3⟩:=h;exact ⟨v,h1,bz hb.size h2,ak hb h3⟩
theorem cN.tuple (h:cN w o e w'):∃v b,e=.returned (.tuple #[v,.bool b]):=by
 unfold cN at h;cases o with
 |none=>exact ⟨_,_,h.1⟩
 |some l=>obtain ⟨v,h1,_⟩:=h;exact ⟨_,_,h1⟩
theorem cN.bel (h:cN w o e w'):Bw w w':=by
 unfold cN at h;cases o with
 |none=>exact h.2
 |some l=>obtain ⟨_,_,_,h⟩:=h;exact h
theorem KI (l:List Int) (s:Int) (v1:Value) (w:World) (h1:fA w v1 l) (hl:l.length≤1000):Calls prog 211 #[v1,.int .i64 s] w (cN w (jV l s)):=by
 have HC:=aa (Oq l v1 w h1 hl);obtain ⟨p,c,rfl,hc1,hc2,ha⟩:=h1;have HA:=aa ha;obtain ⟨N,hN⟩:=aG l.length;rw[hN] at hc1 hl HC;rw[hN];have HN:=aa hN;have b0:(N:Int)≤1000:=by omega
 clear ha hN hl hc1 hc2;cases hco:gK l with
 |none=>have HF:=aa (Ot (s:=s) hco);have Jo:=aa hco;clear hco;go_enter func211,ntmps211;go_wp2_with (go_at_call 207;(refine HC.o.mono ?_);rintro e w5 hp;rw[Jo.o] at hp;obtain ⟨rfl,aR⟩:=hp;have bp:=aa aR;clear aR);refine au (cN.no HF bp) ?_;simp[results,results211,go_sem]
 |some cs=>
  have Jo:=aa hco;have tk:=aa (show cs.length=N by rw[Kr hco,HN.o]);have Fj:=aa (N4 hco);clear hco;by_cases hs0:s<0
  ·have HF:=aa (tL (s:=s) Jo (by omega))
   go_enter func211,ntmps211;go_wp2_with (go_at_call 207;(refine HC.o.mono ?_);rintro e w5 hp;rw[Jo.o] at hp;obtain ⟨v5,rfl,xS,aR⟩:=hp;have bp:=aa aR;clear aR xS);refine au (cN.no HF bp) ?_;simp[results,results211,go_sem]
  by_cases hsN:(N:Int)≤s
  ·have HF:=aa (tL (s:=s) Jo (by rw[HN.o];omega))
   go_enter func211,ntmps211;go_wp2_with (go_at_call 207;(refine HC.o.mono ?_);rintro e w5 hp;rw[Jo.o] at hp;obtain ⟨v5,rfl,xS,aR⟩:=hp;have bp:=aa aR;clear aR xS);refine au (cN.no HF bp) ?_;simp[results,results211,go_sem]
  obtain ⟨k,rfl⟩:∃k:Nat,s=k:=⟨s.toNat,by omega⟩
  have hkN:(k:Int)<(N:Int):=by omega
  have MQ:(0:Int)≤(k:Int):=by omega
  obtain ⟨x,hx⟩:=fx (l:=l) (k:=k) (by rw[HN.o];omega);obtain ⟨Su,g,o,rfl,r0⟩:=HA.o k x hx;have xe:=aa r0;have HX:=aa hx;have d2:decide (N≤k)=false:=by simp;omega
  clear hs0 hsN hx r0 Su;by_cases hx0:x=0
  ·have HF:=aa (tL (s:=(k:Int)) Jo (by rw[Int.toNat_natCast,HX.o];simp[hx0]))
   have d1:(x==0)=true:=(by simp[hx0]);subst hx0;go_enter func211,ntmps211;go_wp2_with (go_at_call 207;(refine HC.o.mono ?_);rintro e w5 hp;rw[Jo.o] at hp;obtain ⟨v5,rfl,xS,aR⟩:=hp;have bp:=aa aR;have r1:=ae aR xe.o;clear aR xS);refine au (cN.no HF bp) ?_;simp[results,results211,go_sem]
  ·have d1:(x==0)=false:=by simp[hx0]
   obtain ⟨⟨cl,cb⟩,hy⟩:∃y,cs[k]?=some y:=⟨_,List.getElem?_eq_getElem (by rw[tk.o];omega)⟩
   have HF:=aa (Ou Jo HX hx0 hy);have HYB:=aa (Fj.o _ (List.mem_of_getElem? hy));have HY:=aa hy;clear hx0 hy;go_enter func211,ntmps211;go_upto_region 6 with (go_at_call 207;(refine HC.o.mono ?_);rintro e w5 hp;rw[Jo.o] at hp;obtain ⟨v5,rfl,xS,aR⟩:=hp;rw[tk.o] at xS;have bp:=aa aR;have oy:=aa xS;have r1:=ae aR xe.o;clear aR xS);clear r1;rcases aJ oy.o with ⟨_,e,_⟩|⟨gc,cc,rfl⟩
   ·omega
   obtain ⟨y0,y1⟩:=Ov oy HY.o;simp only at y0 y1;have hdr:Bw w5 w5.drew:=aH.drew;have HS:=aa (And.intro (ae hdr y0) (ae hdr y1));have HP:=aa (Mg [] cb cl (.slice none 0 0) w5.drew (iG _) (by simp) (by have h:=HYB.o;exact Int.le_trans h.2.2.2 (by decide)));have hkc:(k:Int)≤(cc:Int):=by have:=(JG oy).2.1;omega
   clear hdr;go_region_held3 (fun w'=>w'.cell? ⟨gc,k*2,none⟩=some (.int .i64 cl)∧w'.cell? ⟨gc,k*2+1,none⟩=some (.int .i64 cb))
    (first|with_reducible exact HS.o|with_reducible exact Ff.o)
    (((with_reducible refine HP.o.mono ?_);rintro e w6 SF;have Ff:=aa (And.intro (ae SF.bel HS.o.1) (ae SF.bel HS.o.2));obtain ⟨v6,b6,rfl⟩:=SF.tuple;have Zv:=aa SF;clear SF))
   go_wp2_with fail;have aka:=aa (show cN w (jV l k) (.returned (.tuple #[v6,.bool b6])) w6 by
    rw[HF.o];exact Zv.below (bp.trans ((aH.drew (w:=w5)).mono bp.size)))
   refine au aka ?_;simp[results,results211,go_sem]
theorem AG (x y z:Int) (w:World):Calls prog 208 #[.agg #[.int .i64 x,.int .i64 y,.int .i64 z]] w fun e w'=>e=.returned (.int .i64 (gL ⟨x,y,z⟩))∧Bw w w':=by
 obtain ⟨W1,hW1⟩:=aG (w.alloc (.cells #[.int .i64 x,.int .i64 y,.int .i64 z] 226));have aY:=aa (show Bw w W1 by rw[← hW1];exact ar);have aU:=aa (show My W1 w.heap.size x y z by rw[← hW1];exact My.new w x y z _);have ee:=aa hW1;clear hW1;go_enter func208,ntmps208;go_upto_region 1 with fail;rw[ee.o];obtain ⟨x0,x1,x2⟩:=aU.o;cases hm:jR ⟨x,y,z⟩ with
 |false=>have HF:=aa (show gL ⟨x,y,z⟩ = -1 by unfold gL;rw[if_neg (by rw[hm];simp)]);have HM:=aa hm;clear hm;go_wp2_with (go_at_call 181;(refine (oz x y z _).mono ?_);rintro e w5 ⟨rfl,aR⟩;rw[HM.o];have bp:=bh aY aR;clear aR);go_ret;exact ⟨kH (by rw[HF.o]),bp⟩
 |true=>
  have HM:=aa hm;have hcs:=qB hm;simp only at hcs;have HSY:=aa (show gL ⟨x,y,z⟩=if 0<z then 253+z else x by unfold gL;rw[if_pos hm]);clear hm;rcases hcs with ⟨rfl,rfl,h3,h4⟩|⟨rfl,h2,h3,h4,h5⟩
  ·go_wp2_with (go_at_call 181;(refine (oz x 0 0 _).mono ?_);rintro e w5 ⟨rfl,aR⟩;rw[HM.o];have y0:=ae aR aU.o.1;have y2:=ae aR aU.o.2.2;have bp:=bh aY aR;clear aR)
   go_ret;exact ⟨kH (by rw[HSY.o,if_neg (by omega)]),bp.o⟩
  ·have d1:decide (0<z)=true:=by simp;omega
   go_wp2_with (go_at_call 181;(refine (oz 0 y z _).mono ?_);rintro e w5 ⟨rfl,aR⟩;rw[HM.o];have y0:=ae aR aU.o.1;have y2:=ae aR aU.o.2.2;have bp:=bh aY aR;clear aR);go_ret;exact ⟨kH (by rw[HSY.o,if_pos (by omega)]),bp⟩
theorem uN (b:List Bool) (n wd:Nat) (d:Int) (hd:d=(wd:Nat)) (v:Value) (w:World) (h:dy w v b) (hl:b.length≤1000000) (h1:wd≤30) (h2:n<2 ^ wd):Calls prog 210 #[v,.int .i64 n,.int .i64 d] w fun e w'=>∃v',e=.returned v'∧w'.ownsRow w.heap.size 4 1 v' (b.length+wd) (bQ (b++bitsOf n wd))∧Bw w w':=by
 subst hd;have hn:(n:Int)≤1000000000000:=by have:=(vQ h1).2;omega
 have HP:=aa (Mg b n wd v w h hl hn);rw[CN h1 h2] at HP;have HL:=aa (show (b++bitsOf n wd).length=b.length+wd by rw[List.length_append,eW]);clear hn h hl h1 h2;go_enter func210,ntmps210;go_wp2_with (go_at_call 227;(refine HP.o.mono ?_);rintro e w5 ⟨v5,rfl,xS,aR⟩;have bp:=aa aR;have oy:=aa xS;clear aR xS);go_ret;exact ⟨_,rfl,by have:=oy.o;rw[HL.o] at this;exact this,bp⟩
theorem Mz:∀(l:List Int) (i:Nat) (x y:Int),l[i]?=some x→(l.set i y).sum=l.sum-x+y
 |[],i,x,y,h=>by simp at h
 |a::l,0,x,y,h=>by simp at h;subst h;simp only[List.set_cons_zero,List.sum_cons];omega
 |a::l,i+1,x,y,h=>by rw[List.getElem?_cons_succ] at h;rw[List.set_cons_succ,List.sum_cons,List.sum_cons,Mz l i x y h];omega
def qH (f:List Int) (k:Nat):Prop:=f.length=272∧(∀x∈f,0≤x)∧f.sum=k
theorem qH.step {f:List Int} (h:qH f k) (h0:0≤s) (h1:s≤271):qH (fV f s) (k+1):=by obtain ⟨a,b,c⟩:=h;refine ⟨by rw[tE,a],Aa s b,?_⟩;unfold fV;obtain ⟨x,hx⟩:=fx (l:=f) (k:=s.toNat) (by omega);rw[Mz _ _ x _ hx,hx,c];simp;omega
theorem MA:∀(l:List jL),(∀t∈l,jR t=true)→∀(f:List Int) (k:Nat),qH f k→qH (l.foldl (fun f t=>fV f (gL t)) f) (k+l.length)
 |[],_,f,k,h=>h
 |t::l,hm,f,k,h=>by have hb:=AD (hm t (by simp));have:=MA l (fun x hx=>hm x (by simp[hx])) _ (k+1) (h.step hb.1 hb.2);rw[List.foldl_cons,List.length_cons,show k+(l.length+1)=k+1+l.length by omega];exact this
theorem MB:∀n:Nat,(List.replicate n (0:Int)).sum=0
 |0=>rfl
 |n+1=>by rw[List.replicate_succ,List.sum_cons,MB n];rfl
theorem KJ:qH (List.replicate 272 0) 0:=⟨List.length_replicate,fun x hx=>by have:=(List.mem_replicate.1 hx).2;omega,MB 272⟩
theorem SG {l:List jL} (h:∀t∈l,jR t=true):qH (jW l) l.length:=by have:=MA l h _ 0 KJ;rw[Nat.zero_add] at this;exact this
theorem Ow {l:List jL} (h:l[k]?=some t):jW (l.take (k+1))=fV (jW (l.take k)) (gL t):=by unfold jW;rw[List.take_add_one,h,Option.toList,List.foldl_append];rfl
theorem Hs {l:List jL} (h:¬l.length≤1000):jr l=none:=by unfold jr;rw[if_neg (fun h2=>h h2.1)]
theorem KM {l:List jL} (hk:l[k]?=some t) (h:jR t=false):jr l=none:=by unfold jr;rw[if_neg];intro h2;have:=List.all_eq_true.1 h2.2 t (List.mem_of_getElem? hk);rw[h] at this;cases this
theorem Ht (n:List Int) (i:Nat):(yU n i).length≤13:=by unfold yU;split <;> simp[eW]
theorem wC (n:List Int):∀i,(mZ n i).length≤13*i
 |0=>by simp[mZ]
 |i+1=>by have:=wC n i;have:=Ht n i;rw[mZ,List.length_append];omega
theorem AH (n:List Int):∀i,uM n i≤i
 |0=>Nat.le_refl _
 |i+1=>by have:=AH n i;unfold uM;split <;> omega
theorem Ox {b o:List Bool} {n wd:Int} (h:sF b n wd=some o):o.length≤b.length+30:=by
 unfold sF at h
 split at h
 ·cases h;rw[List.length_append,eW];omega
 ·cases h
theorem KO {o:List Bool} (h:jV l s=some o):o.length≤30:=by
 unfold jV at h
 split at h
 ·cases h
 ·split at h
  ·have:=Ox h;simpa using this
  ·cases h
theorem AJ (l:List Int) (s:Int):((jV l s).getD []).length≤30:=by
 cases h:jV l s with
 |none=>simp
 |some o=>exact KO h
theorem KP {n:List Int} {l:List jL} (h:l[k]?=some t):gG n (l.take (k+1))=gG n (l.take k)++N5 n t:=by unfold gG;rw[List.take_add_one,h,Option.toList,List.map_append,List.flatten_append];simp
theorem SH (n:List Int) (t:jL):(N5 n t).length≤38:=by unfold N5;have:=AJ n (gL t);rw[List.length_append];split <;> simp[eW] <;> omega
theorem wD (n:List Int):∀l:List jL,(gG n l).length≤38*l.length
 |[]=>by simp[gG]
 |t::l=>by have h1:=wD n l;have h2:=SH n t;unfold gG at *;rw[List.map_cons,List.flatten_cons,List.length_append,List.length_cons];omega
theorem C6 (W:World) (B n:Nat) (v v2:Value) (l m:List Bool) (h:W.ownsRow B 4 1 v n (bQ l)) (h2:dy W v2 m) (hn:n≤10000000) (hm:m.length≤10000000) (hB:B≤W.heap.size) :
 ∃v' w',(Builtin.append_ #[24,24] 24 #[v,v2]).run prog W=.ok v' w'∧w'.ownsRow B 4 1 v' (n+m.length) (bQ (l++m))∧Below B W w':=by
 obtain ⟨i0,iM,hz0,hz1,hz2⟩:=info_parts qy;obtain ⟨p,c,rfl,hc,jh⟩:=h2.src;obtain ⟨v',w',r1,r2,r3⟩:=dM (P:=prog) W B 24 24 4 i0 (.bool false) 1 1 underlying24 iM hz0 hz1 hz2 rfl (by decide) v n _ h p m.length c (bQ m) jh hc (by unfold maxLen;omega) (by omega) hB;refine ⟨v',w',r1,?_,fy r3 hB (fun k hk=>(h.lt k hk).1)⟩;unfold bQ at *;rw[List.map_append];exact r2
theorem cN.bits (h:cN w o e w'):∃v b,e=.returned (.tuple #[v,.bool b])∧dy w' v (o.getD [])∧Bw w w':=by
 unfold cN at h;cases o with
 |none=>exact ⟨_,_,h.1,iG _,h.2⟩
 |some l=>obtain ⟨v,h1,h2,h3⟩:=h;exact ⟨_,_,h1,eD rfl h2,h3⟩
def Wr1 (w:World) (f i:Value) (wr:World):Prop:=∃k g cap:Nat,k≤272∧i=.int .i64 k∧f=.slice (some ⟨g,0,none⟩) k cap∧wr.ownsRow w.heap.size 3 1 (.slice (some ⟨g,0,none⟩) k cap) k (bw (List.replicate k 0))∧Bw w wr
def Wr2 (w:World) (l:List jL) (N g cap:Nat) (i:Value) (wr:World):Prop:=∃k:Nat,k≤N∧i=.int .i64 k∧(∀(j:Nat) t,j<k→l[j]?=some t→jR t=true)∧wr.ownsRow w.heap.size 3 1 (.slice (some ⟨g,0,none⟩) 272 cap) 272 (bw (jW (l.take k)))∧Bw w wr
def Wr3 (w7:World) (n:List Int) (many head i:Value) (wr:World):Prop:=∃(k m:Nat) (b:List Bool) (hv:Value),k≤272∧i=.int .i64 k∧hv=head∧m=uM n k∧b=mZ n k∧many=.int .i64 m∧wr.ownsRow w7.heap.size 4 1 hv b.length (bQ b)∧Bw w7 wr
def Wr4 (w7:World) (n:List Int) (l:List jL) (pre:List Bool) (N:Nat) (out i:Value) (wr:World):Prop:=∃(k m:Nat) (hv:Value),k≤N∧i=.int .i64 k∧hv=out∧m=(pre++gG n (l.take k)).length∧wr.ownsRow w7.heap.size 4 1 hv m (bQ (pre++gG n (l.take k)))∧Bw w7 wr
theorem KQ (l:List jL) (v1:Value) (w:World) (h1:dw w v1 3 gR l) (hl:l.length≤1000000):Calls prog 182 #[v1] w (cN w (jr l)):=by
 obtain ⟨p,c,rfl,hc1,hc2,_,ha⟩:=h1;have HA:=aa ha;obtain ⟨N,hN⟩:=aG l.length;rw[hN] at hc1 hl;rw[hN];have HN:=aa hN;have b0:(N:Int)≤1000000:=by omega
 clear ha hN hl hc1 hc2;by_cases h1000:(1000:Int)<(N:Int)
 ·have HF:=aa (Hs (l:=l) (by rw[HN.o];omega))
  go_enter func182,ntmps182;go_wp2_with fail;refine au (cN.no HF aH) ?_;simp[results,results182,go_sem]
 have b1:(N:Int)≤1000:=by omega
 clear h1000 b0;have xe:=aa (World.ownsRow_made w #[] 0 (Nat.le_refl w.heap.size) (by unfold maxLen;omega) rfl:(w.alloc (.cells #[] 3)).ownsRow w.heap.size 3 1 (.slice (some ⟨w.heap.size,0,none⟩) 0 0) 0 []);go_enter func182,ntmps182;go_wp2_with fail;go_loopw [4,5] (fun f i wr=>Wr1 w f i wr) (fun _ i _=>272-(intOf i).toNat)
 case atStart=>exact ⟨0,_,_,dO,rfl,rfl,xe,ar⟩
 case round=>
  obtain ⟨k,gf,cf,hk,rfl,rfl,hro,hb⟩:=hrel;have Jr:=aa hro;have HB:=aa hb;clear hro hb xe;by_cases hlt:k<272
  ·have fN:(k:Int)<272:=by omega
   obtain ⟨g2,c2,w2,hrun,bY⟩:=xG wr w.heap.size k _ (List.replicate k 0) 0 Jr (by omega) HB.size;have dJ:=aa hrun;have BX:=aa (show w2.ownsRow w.heap.size 3 1 (.slice (some ⟨g2,0,none⟩) (k+1) c2) (k+1) (bw (List.replicate (k+1) 0)) by rw[← Hj,← Ae];exact bY.row);have bS:=aa (HB.trans bY.below);clear hrun bY;go_wp2_with (at_builtin;refine Lib.wpList_append_run _ rfl _ _ _ _ rfl _ _ rfl rfl _ _ dJ.o ?_);go_roundw
   case rel=>exact ⟨k+1,_,_,by omega,by go_num,rfl,BX.o,bS.o⟩
   case measure=>simp[intOf];omega
  obtain rfl:k=272:=by omega
  rw[show ((272:Nat):Int)=272 from rfl];go_wp2_with fail;go_loopw [6] (fun i wz=>Wr2 w l N gf cf i wz) (fun i _=>N-(intOf i).toNat)
  case atStart=>exact ⟨0,dO,rfl,fun j t hj=>by omega,Jr,HB⟩
  case round=>
  obtain ⟨k,hk,rfl,hall,hro,hb⟩:=hrel;have pN:=aa hall;have Sw:=aa hro;have bS:=aa hb;have Hu:=aa (show qH (jW (l.take k)) k by
   have:=SG (l:=l.take k) (fun t ht=>by
    obtain ⟨j,hj⟩:=List.getElem?_of_mem ht;have D7:=(List.getElem?_eq_some_iff.1 hj).1;rw[List.length_take] at D7;rw[List.getElem?_take_of_lt (by omega)] at hj;exact hall j t (by omega) hj)
   rw[List.length_take,HN.o,Nat.min_eq_left hk] at this;exact this)
  clear hall hro hb;by_cases hlt:k<N
  ·have fN:(k:Int)<(N:Int):=by omega
   obtain ⟨⟨x,y,z⟩,hs⟩:∃s,l[k]?=some s:=⟨_,List.getElem?_eq_getElem (by rw[HN.o];exact hlt)⟩
   obtain ⟨gt,ot,rfl,hcell⟩:=HA.o k _ hs;have r0:=ae bS (hcell 0 _ rfl);have r1:=ae bS (hcell 1 _ rfl);have r2:=ae bS (hcell 2 _ rfl);replace r0:wr.cell? ⟨gt,ot+k*3,none⟩=some (.int .i64 x):=r0;replace r1:wr.cell? ⟨gt,ot+k*3+1,none⟩=some (.int .i64 y):=r1;replace r2:wr.cell? ⟨gt,ot+k*3+2,none⟩=some (.int .i64 z):=r2;have HS:=aa hs;have Uf:=aa (And.intro r0 (And.intro r1 r2));clear hcell hs;cases hm:jR ⟨x,y,z⟩ with
   |false=>have HF:=aa (KM HS hm);have HM:=aa hm;clear hm;go_wp2_with (go_at_call 181;(refine (oz x y z _).mono ?_);rintro e w5 ⟨rfl,aR⟩;rw[HM.o];have bp:=bh bS aR;clear aR);refine au (cN.no HF bp) ?_;simp[results,results182,go_sem]
   |true=>
    have HM:=aa hm;have lZ:=aa (AD hm);have HFS:=aa (Ow HS);clear hm;obtain ⟨s,Uk⟩:=aG (gL ⟨x,y,z⟩);rw[Uk] at lZ HFS;have HSY:=aa Uk;clear Uk;obtain ⟨q,rfl⟩:∃q:Nat,s=q:=⟨s.toNat,by have:=lZ.o;omega⟩
    have anE:(q:Int)<272:=by have:=lZ.o;omega
    have hq0:(0:Int)≤(q:Int):=(by omega);go_upto_region 13 with (go_at_call 181;(refine (oz x y z _).mono ?_);rintro e w5 ⟨rfl,aR⟩;rw[HM.o];have bp:=aa aR;clear aR);clear r0 r1 r2;have r0:=ae bp Uf.1;have r1:=ae bp Uf.2.1;have r2:=ae bp Uf.2.2;obtain ⟨y0,hy⟩:∃y0,(jW (l.take k))[q]?=some y0:=⟨_,List.getElem?_eq_getElem (by rw[Hu.o.1];omega)⟩
    have hy0:=Hu.2.1 y0 (List.mem_of_getElem? hy);have hy1:y0≤1000:=oZ Hu.2.1 (by rw[Hu.o.2.2];omega) y0 (List.mem_of_getElem? hy);have HY:=aa hy;have U1:=aa (fun (W:World) (hb:Bw w5 W)=>aL (aL Sw bp) hb);clear hy;go_wp2_with (go_at_call 208;(refine (AG x y z _).mono ?_);rintro e w6 ⟨rfl,cV⟩;rw[HSY.o];have cU:=aa cV;have c0:=Ag (U1.o _ cV) HY.o;have f0:=gj (U1.o _ cV) q;clear cV);have rH:=aa (U1.o _ cU);have ow:=aa (show (w6.setCell ⟨gf,q,none⟩ (.int .i64 (y0+1))).ownsRow w.heap.size 3 1 (.slice (some ⟨gf,0,none⟩) 272 cf) 272 (bw (jW (l.take (k+1)))) by
     have h:=lU rH q (.int .i64 (y0+1)) (by unfold bw;rw[List.length_map,Hu.o.1];omega);rw[HFS.o];unfold fV;rw[Int.toNat_natCast,HY.o,Option.getD_some,← rK];exact h)
    have yC:=aa ((ak bS (ak bp cU)).setCell (p:=⟨gf,q,none⟩) (rH.lt gf rfl).1 (.int .i64 (y0+1)));go_roundw
    case rel=>exact ⟨k+1,by omega,by go_num,fun j t hj ht=>by
     by_cases e:j=k
     ·subst e;rw[HS.o] at ht;cases ht;exact HM.o
     ·exact pN.o j t (by omega) ht,ow.o,yC.o⟩
    case measure=>simp[intOf];omega
  obtain rfl:k=N:=by omega
  have si:=aa (show l.take k=l from List.take_of_length_le (by rw[HN.o];exact aT));rw[si.o] at Sw Hu;have XT:=aa (show ∀t∈l,jR t=true from fun t ht=>by
   obtain ⟨j,hj⟩:=List.getElem?_of_mem ht;have D7:=(List.getElem?_eq_some_iff.1 hj).1;rw[HN.o] at D7;exact pN j t D7 hj)
  have HW7:=aa (show jr l=some (bitsOf (uM (iO (jW l)) 272) 9++mZ (iO (jW l)) 272++gG (iO (jW l)) l) by
   unfold jr;rw[if_pos ⟨by rw[HN.o];omega,List.all_eq_true.2 XT⟩])
  have aeN:=aa (show ∀x∈jW l,aQ x from wA (fun x hx=>⟨Hu.2.1 x hx,oZ Hu.2.1 (by rw[Hu.o.2.2];omega) x hx⟩));have hiv:=pZ aeN (by rw[Hu.o.1];exact Sw);have nV:=aa (Od (jW l) _ wr hiv (by rw[Hu.o.1];decide) Hu.2.1 (by rw[Hu.o.2.2];omega));have yO:=aa (xE Hu.2.1 (by rw[Hu.o.2.2];omega));rw[Hu.o.1] at nV;obtain ⟨ns,hns⟩:=aG (iO (jW l));have ll:=aa (show ns.length=272 by rw[← hns,vP,Hu.o.1]);rw[hns] at nV yO HW7;clear hiv hns aeN pN;go_upto_region 15 with (go_at_call 209;(refine nV.o.mono ?_);rintro e w7 ⟨v7,rfl,Vw,dL⟩;have Ev:=aa Vw;have fw:=bh bS dL;clear Vw dL);rcases aJ Ev.o with ⟨_,e,_⟩|⟨gn,cn,rfl⟩
  ·omega
  have HIV:=aa (show fA w7 (.slice (some ⟨gn,0,none⟩) 272 cn) ns from pZ (wA (fun x hx=>by have:=yO.o x hx;omega)) (by rw[ll.o];exact Ev));have HH0:=aa (World.ownsRow_made w7 #[] 0 (Nat.le_refl w7.heap.size) (by unfold maxLen;omega) rfl:(w7.alloc (.cells #[] 4)).ownsRow w7.heap.size 4 1 (.slice (some ⟨w7.heap.size,0,none⟩) 0 0) 0 []);go_wp2_with fail;go_loopw [8,9,10] (fun many head i wz=>Wr3 w7 ns many head i wz) (fun _ _ i _=>272-(intOf i).toNat)
  case atStart=>exact ⟨0,0,[],_,dO,rfl,rfl,rfl,rfl,rfl,HH0,ar⟩
  case round=>
  obtain ⟨j,m,b,hv,hj,rfl,rfl,hm,iY,rfl,hro,hb⟩:=hrel;have HM:=aa hm;have jl:=aa iY;have Zw:=aa hro;have dF:=aa hb;have vE:=aa (show b.length≤4000 by rw[iY];have:=wC ns j;omega);have anG:(m:Int)≤272:=by have:=AH ns j;omega
  clear hm iY hro hb HH0;by_cases hlt:j<272
  ·have Gg:(j:Int)<272:=by omega
   obtain ⟨x,hx⟩:=fx (l:=ns) (k:=j) (by rw[ll.o];exact hlt);obtain ⟨x0,x15⟩:=yO.o x (List.mem_of_getElem? hx);have r0:wr.cell? ⟨gn,j,none⟩=some (.int .i64 x):=ae dF (Ag Ev hx);have hjc:(j:Int)<(cn:Int):=by have:=(JG Ev).2.1;omega
   have HXX:=aa hx;have JP:=aa r0;have HHN:=aa (show mZ ns (j+1)=mZ ns j++(if 0<x then bitsOf j 9++bitsOf x.toNat 4 else []) by rw[mZ];unfold yU;rw[hx];rfl);have HMN:=aa (show uM ns (j+1)=uM ns j+if 0<x then 1 else 0 by rw[uM,hx];rfl);clear hx;by_cases hx0:0<x
   ·obtain ⟨X,rfl⟩:∃X:Nat,x=X:=⟨x.toNat,by omega⟩
    rw[if_pos hx0] at HHN HMN;have d1:decide ((0:Int)<(X:Int))=true:=by simp;omega
    have d2:decide (0<X)=true:=by simp;omega
    have hdr:Bw wr wr.drew:=aH.drew;have yq:=aa (eD rfl Zw);have HP1:=aa (uN b j 9 9 rfl hv wr.drew (yq.keep (af hdr)) (by have:=vE.o;omega) (by decide) (by
     have e:(2:Nat) ^ 9=512:=(by decide);omega))
    have pK:=aa (fun (W:World) (v:Value) (h:dy W v (b++bitsOf j 9))=>uN (b++bitsOf j 9) X 4 4 rfl v W h (by rw[List.length_append,eW];have:=vE.o;omega) (by decide) (by
     have e:(2:Nat) ^ 4=16:=(by decide);omega))
    have HL9:=aa (show (b++bitsOf j 9).length=b.length+9 by rw[List.length_append,eW]);have HS:=aa (ae hdr r0);have YD:=aa hdr;clear hdr;go_upto_region 22 with fail;go_region_held3 (fun w'=>w'.cell? ⟨gn,j,none⟩=some (.int .i64 (X:Nat))) (first|with_reducible exact HS.o|with_reducible exact HS5.o|with_reducible exact Ff.o)
     (first|((with_reducible refine HP1.o.mono ?_);rintro e w5 ⟨v5,rfl,xS,aR⟩;have bp:=aa (YD.o.trans aR);have oy:=aa xS;have HS5:=aa (ae aR HS.o);have HBV:=aa (eD HL9.o xS);clear xS aR)|((with_reducible refine (pK.o _ _ HBV.o).mono ?_);rintro e w6 ⟨v6,rfl,RN,cV⟩;have cU:=bh bp cV;have rH:=aa RN;have Ff:=aa (ae cV HS5.o);clear RN cV))
    have HRX:=aa (show w6.ownsRow w7.heap.size 4 1 v6 (mZ ns (j+1)).length (bQ (mZ ns (j+1))) by
     have h:=rH.o;rw[jl.o,List.append_assoc] at h;rw[HHN.o];have hl:(mZ ns j++(bitsOf j 9++bitsOf X 4)).length=(mZ ns j++bitsOf j 9).length+4:=by simp[eW]
     rw[Int.toNat_natCast,hl];exact bz (Nat.le_trans dF.size bp.size) h)
    go_wp2_with fail;go_roundw
    case rel=>exact ⟨j+1,m+1,_,_,by omega,by go_num,rfl,by rw[HMN.o,HM.o],rfl,by go_num,HRX.o,ak dF.o cU.o⟩
    case measure=>simp[intOf];omega
   ·rw[if_neg hx0] at HHN HMN
    rw[List.append_nil] at HHN;have d1:decide (0<x)=false:=by simp;omega
    clear hx0;go_wp2_with fail;go_roundw
    case rel=>exact ⟨j+1,m,b,_,by omega,by go_num,rfl,by rw[HMN.o,HM.o];rfl,by rw[HHN.o,jl.o],rfl,Zw.o,dF.o⟩
    case measure=>simp[intOf];omega
  obtain rfl:j=272:=by omega
  rw[show ((272:Nat):Int)=272 from rfl];have HP0:=aa (uN [] m 9 9 rfl (.slice none 0 0) wr (iG _) (by simp) (by decide) (by
   have h1:=AH ns 272;have e:(2:Nat) ^ 9=512:=by decide
   have:=HM.o;omega))
  have yq:=aa (eD rfl Zw);have HCT:=aa (fun (W:World) (v:Value) (hb:Bw wr W) (h:W.ownsRow wr.heap.size 4 1 v (0+9) (bQ ([]++bitsOf m 9)))=>C6 W wr.heap.size 9 v hv ([]++bitsOf m 9) b h (yq.keep (af hb)) (by decide) (by have:=vE.o;omega) hb.size);obtain ⟨pre,wE⟩:=aG (bitsOf m 9++b);have nU:=aa (show pre.length≤4009 by rw[← wE,List.length_append,eW];have:=vE.o;omega);have aeR:=aa wE;have HW8:=aa (show jr l=some (pre++gG ns l) by rw[HW7.o,← wE,HM.o,jl.o]);clear wE;have hv':∃p c,hv=.slice p b.length c:=by obtain ⟨p,c,e,_⟩:=yq.o;exact ⟨p,c,e⟩
  obtain ⟨ph,ch,rfl⟩:=hv';go_upto_region 23 with fail;go_wp2_with (first|(go_at_call 210;(with_reducible refine HP0.o.mono ?_);rintro e w8 ⟨v8,rfl,VY,BH⟩;obtain ⟨v9,w9,XU,XV,kn⟩:=HCT.o w8 v8 BH VY;have XW:=aa XU;have tK:=aa XV;have ke:=aa (BH.trans kn);clear VY BH XU XV kn)|(at_builtin;refine Lib.wpList_append_run _ rfl _ _ _ _ rfl _ _ rfl rfl _ _ XW.o ?_));have Gv:=aa (show w9.ownsRow w7.heap.size 4 1 v9 (pre++gG ns (l.take 0)).length (bQ (pre++gG ns (l.take 0))) by
   have h:=tK.o;rw[List.nil_append,aeR.o] at h;have hl:pre.length=9+b.length:=by rw[← aeR.o,List.length_append,eW]
   rw[List.take_zero];show w9.ownsRow _ _ _ _ (pre++[]).length (bQ (pre++[]));rw[List.append_nil,hl];exact bz dF.size h)
  have akd:=aa (show Bw w7 w9 from dF.trans (ke.mono dF.size));clear HP0 HCT XW tK;go_loopw [11,12,13,14] (fun out i _ _ wz=>Wr4 w7 ns l pre k out i wz) (fun _ i _ _ _=>k-(intOf i).toNat)
  case atStart=>exact ⟨0,_,_,dO,rfl,rfl,rfl,Gv,akd⟩
  case round=>
  obtain ⟨i,mo,ov,hi,rfl,rfl,hmo,hro,hb⟩:=hrel;have HMO:=aa hmo;have N7:=aa hro;have fW:=aa hb;have yV:=aa (show mo≤50000 by
   rw[hmo,List.length_append];have h1:=wD ns (l.take i);have h2:=nU.o;rw[List.length_take] at h1;omega)
  clear hmo hro hb Gv;by_cases hlt:i<k
  ·have hii:(i:Int)<(k:Int):=by omega
   obtain ⟨⟨x,y,z⟩,hs⟩:∃s,l[i]?=some s:=⟨_,List.getElem?_eq_getElem (by rw[HN.o];exact hlt)⟩
   obtain ⟨gt,ot,rfl,hcell⟩:=HA.o i _ hs;have ake:=aa (show gt<w7.heap.size from World.block_lt_of_cell? _ _ (ae fw (hcell 0 _ rfl)));have r0:=ae fW (ae fw (hcell 0 _ rfl));have r1:=ae fW (ae fw (hcell 1 _ rfl));have r2:=ae fW (ae fw (hcell 2 _ rfl));replace r0:wr.cell? ⟨gt,ot+i*3,none⟩=some (.int .i64 x):=r0;replace r1:wr.cell? ⟨gt,ot+i*3+1,none⟩=some (.int .i64 y):=r1;replace r2:wr.cell? ⟨gt,ot+i*3+2,none⟩=some (.int .i64 z):=r2;have Uf:=aa (And.intro r0 (And.intro r1 r2));have tq:=qB (XT _ (List.mem_of_getElem? hs));have Ju:=aa (KP (n:=ns) hs);simp only at tq;obtain ⟨s,Uk⟩:=aG (gL ⟨x,y,z⟩);have HSY:=aa Uk;have HW6:=aa (fun (W:World) (hb:Bw w7 W)=>KI ns s _ W (HIV.keep (af hb)) (by rw[ll.o];decide));obtain ⟨cb,hcb⟩:=aG ((jV ns s).getD []);have Fj:=aa hcb;have aeS:=aa (show cb.length≤30 by rw[← hcb];exact AJ ns s);have si:=aa (show N5 ns ⟨x,y,z⟩=cb++if 0<z then bitsOf y.toNat 8 else [] by unfold N5;rw[Uk,hcb]);clear hcell hs Uk hcb;go_upto_region 27 with fail;go_upto_region 28 with (first|(go_at_call 208;(with_reducible refine (AG x y z _).mono ?_);rintro e w5 ⟨rfl,aR⟩;rw[HSY.o];have bp:=aa aR;clear aR)|(go_at_call 211;(with_reducible refine (HW6.o _ (ak fW.o bp.o)).mono ?_);rintro e w6 SF;obtain ⟨v6,b6,rfl,Oy,cV⟩:=SF.bits;rw[Fj.o] at Oy;have aeT:=aa Oy;have cU:=bh bp cV;clear Oy cV SF));have hv6:∃p c,v6=.slice p cb.length c:=by obtain ⟨p,c,e,_⟩:=aeT.o;exact ⟨p,c,e⟩
   obtain ⟨p6,c6,rfl⟩:=hv6;obtain ⟨v8,w8,XX,VY,BH⟩:=C6 w6 w7.heap.size mo ov _ (pre++gG ns (l.take i)) cb (aL N7 cU) aeT (by have:=yV.o;omega) (by have:=aeS.o;omega) (Nat.le_trans fW.size cU.size);have XY:=aa XX;have Ks:=aa VY;have gI:=aa (show Bw w7 w8 from (ak fW cU).trans BH);have HC8:=aa (show w8.cell? ⟨gt,ot+i*3+1,none⟩=some (.int .i64 y)∧w8.cell? ⟨gt,ot+i*3+2,none⟩=some (.int .i64 z) by
    have h0:=ake.o;have Sq:Below w7.heap.size w6 w8:=BH;have k1:=ae cU Uf.2.1;have k2:=ae cU Uf.2.2;exact ⟨(Sq.cell (p:=⟨gt,ot+i*3+1,none⟩) h0).trans k1,(Sq.cell (p:=⟨gt,ot+i*3+2,none⟩) h0).trans k2⟩)
   clear XX VY BH r0 r1 r2;obtain ⟨y1,y2⟩:=HC8.o;have HL8:=aa (show (pre++gG ns (l.take i)++cb).length=mo+cb.length by rw[List.length_append,HMO.o]);by_cases hz:0<z
   ·rcases tq with ⟨e,_⟩|⟨_,hy1,anK,hz3,arF⟩
    ·omega
    obtain ⟨Y,rfl⟩:∃Y:Nat,y=Y:=⟨y.toNat,by omega⟩
    rw[if_pos hz,Int.toNat_natCast] at si;have d1:decide (0<z)=true:=by simp[hz]
    have VZ:=aa (uN (pre++gG ns (l.take i)++cb) Y 8 8 rfl v8 w8 (eD HL8 Ks) (by rw[HL8.o];have:=yV.o;have:=aeS.o;omega) (by decide) (by
     have e:(2:Nat) ^ 8=256:=(by decide);omega))
    clear hz;go_wp2_with (first|(at_builtin;refine Lib.wpList_append_run _ rfl _ _ _ _ rfl _ _ rfl rfl _ _ XY.o ?_)|(go_at_call 210;(with_reducible refine VZ.o.mono ?_);rintro e wa ⟨va,rfl,Zl,JA⟩;have Gv:=aa Zl;have yq:=aa (gI.o.trans (JA.mono gI.o.size));have gq:=aa JA.size;clear Zl JA));have xA:=aa (show pre++gG ns (l.take i)++cb++bitsOf Y 8=pre++gG ns (l.take (i+1)) by rw[Ju.o,si.o];simp);have uC:=aa (show wa.ownsRow w7.heap.size 4 1 va (pre++gG ns (l.take (i+1))).length (bQ (pre++gG ns (l.take (i+1)))) by
     have h:=Gv.o;rw[xA.o,HL8.o] at h;have:(pre++gG ns (l.take (i+1))).length=mo+cb.length+8:=by rw[← xA.o,List.length_append,HL8.o,eW]
     rw[this];exact bz gI.size h)
    go_roundw
    case rel=>exact ⟨i+1,_,_,by omega,by go_num,rfl,rfl,uC.o,yq.o⟩
    case measure=>simp[intOf];omega
   ·have d1:decide (0<z)=false:=by simp;omega
    rw[if_neg hz,List.append_nil] at si;have uC:=aa (show w8.ownsRow w7.heap.size 4 1 v8 (pre++gG ns (l.take (i+1))).length (bQ (pre++gG ns (l.take (i+1)))) by
     have h:=Ks.o;have e:pre++gG ns (l.take (i+1))=pre++gG ns (l.take i)++cb:=by rw[Ju.o,si.o];simp
     rw[e,HL8.o];exact h)
    clear hz;go_wp2_with (at_builtin;refine Lib.wpList_append_run _ rfl _ _ _ _ rfl _ _ rfl rfl _ _ XY.o ?_);go_roundw
    case rel=>exact ⟨i+1,_,_,by omega,by go_num,rfl,rfl,uC.o,gI.o⟩
    case measure=>simp[intOf];omega
  ·obtain rfl:i=k:=by omega
   have kI:=aa (show jr l=some (pre++gG ns (l.take i)) by rw[HW8.o,List.take_of_length_le (by rw[HN.o];exact aT)]);go_wp2_with fail;refine au (cN.yes kI HMO.symm (bz fw.size N7) (ak fw fW)) ?_;simp[results,results182,go_sem]
theorem KR {l:List jL} {o:List Bool} (h:jr l=some o):o.length≤4009+38*l.length:=by
 unfold jr at h
 split at h
 ·cases h
  rw[List.length_append,List.length_append,eW];have h1:=wC (iO (jW l)) 272;have h2:=wD (iO (jW l)) l;omega
 ·cases h
theorem C8 (s:List UInt8):(eG s 0).length≤s.length:=by have:=(vJ s s.length 0 (by omega)).1;omega
theorem Oz {s:List UInt8} (h:s.length=256):((jr (eG s 0)).getD []).length≤1000000:=by
 cases hw:jr (eG s 0) with
 |none=>simp
 |some o=>have:=KR hw;have:=C8 s;simp only[Option.getD_some];omega
theorem AK (l:List UInt8):(⟨l.toArray⟩:ByteArray).size=l.length:=by simp[ByteArray.size]
def Hv (s:List UInt8):Value:=.tuple #[.string ⟨(Ex s).1.toArray⟩,.bool (Ex s).2.1,.bool (Ex s).2.2]
theorem V0 (s:ByteArray) (hs:s.size≤1000000) (w:World):Calls prog 154 #[.string s] w fun e w'=>e=.returned (Hv s.data.toList)∧Bw w w':=by
 have hsz:s.data.toList.length=s.size:=by simp
 have b1:(s.size:Int)≤1000000:=by omega
 by_cases h256:s.size=256
 ·have XS:=aa (fun W=>Oi s hs W)
  have vE:=aa (Oz (s:=s.data.toList) (by omega));have Ml:=aa (show (eG s.data.toList 0).length≤1000000 by have:=C8 s.data.toList;omega);have HET:=aa (show Gi ((jr (eG s.data.toList 0)).getD [])=N6 s.data.toList from rfl);have HEV:=aa (show Hv s.data.toList=if (N6 s.data.toList).length<256 then .tuple #[.string ⟨(N6 s.data.toList).toArray⟩,.bool true,.bool true] else .tuple #[.string s,.bool false,.bool true] by
   unfold Hv Ex;rw[if_pos (show s.data.toList.length=256 by omega)]
   split
   ·rfl
   ·simp only)
  have d1:((s.size:Int) != 256)=false:=by simp;omega
  have d2:(s.size != 256)=false:=by simp[h256]
  obtain ⟨t,ht⟩:=aG (N6 s.data.toList);rw[ht] at HET HEV;obtain ⟨tb,NV⟩:∃tb:ByteArray,(⟨t.toArray⟩:ByteArray)=tb:=⟨_,rfl⟩
  have htn:tb.size=t.length:=by rw[← NV,AK]
  rw[NV] at HEV;have Kj:=aa NV;clear hsz hs h256 ht NV;go_enter func154,ntmps154;go_upto_region 4 with (first|(go_at_call 183;(with_reducible refine (XS.o _).mono ?_);rintro e w5 ⟨v5,rfl,xS,aR⟩;have HV5:=aa (kx Ey rfl xS);have bp:=aa aR;clear xS aR)|(go_at_call 182;(with_reducible refine (KQ _ _ _ HV5.o Ml.o).mono ?_);rintro e w6 SF;obtain ⟨v6,b6,rfl,Oy,cV⟩:=SF.bits;have Zx:=aa Oy;have cU:=bh bp cV;clear Oy cV SF));by_cases hlt:t.length<256
  ·have HE:=aa (show Hv s.data.toList=.tuple #[.string tb,.bool true,.bool true] by rw[HEV.o,if_pos hlt])
   have d3:decide ((tb.size:Int)<256)=true:=by simp;omega
   have d4:decide (tb.size<256)=true:=by simp;omega
   clear hlt htn;go_wp2_with (go_at_call 184;(refine (GM _ _ _ Zx.o vE.o).mono ?_);rintro e w7 ⟨rfl,dL⟩;rw[HET.o,Kj.o];have fw:=bh cU dL;clear dL);refine au ⟨by rw[HE.o],fw⟩ ?_;simp[results,results154,go_sem]
  ·have HE:=aa (show Hv s.data.toList=.tuple #[.string s,.bool false,.bool true] by rw[HEV.o,if_neg hlt])
   have d3:decide ((tb.size:Int)<256)=false:=by simp;omega
   have d4:decide (tb.size<256)=false:=by simp;omega
   clear hlt htn;go_wp2_with (go_at_call 184;(refine (GM _ _ _ Zx.o vE.o).mono ?_);rintro e w7 ⟨rfl,dL⟩;rw[HET.o,Kj.o];have fw:=bh cU dL;clear dL);refine au ⟨by rw[HE.o],fw⟩ ?_;simp[results,results154,go_sem]
 ·have HE:=aa (show Hv s.data.toList=.tuple #[.string ⟨#[]⟩,.bool false,.bool false] by
   unfold Hv Ex;rw[if_neg (show ¬s.data.toList.length=256 by omega)])
  have d1:((s.size:Int) != 256)=true:=by simp;omega
  have d2:(s.size != 256)=true:=by simp[h256]
  clear hsz hs h256;go_enter func154,ntmps154;go_wp2_with fail;refine au ⟨by rw[HE.o],aH⟩ ?_;simp[results,results154,go_sem]
end Go.Proofs.YtbigkioechkngaaGreat
