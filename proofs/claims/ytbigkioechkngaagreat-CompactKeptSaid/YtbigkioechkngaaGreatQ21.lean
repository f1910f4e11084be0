/- The proof, part 22. -/
import Derived.Test.YtbigkioechkngaaGreatQ19
import Derived.Test.YtbigkioechkngaaGreatQ20
set_option maxRecDepth 100000
set_option maxHeartbeats 8000000
namespace Go.Proofs.YtbigkioechkngaaGreat
open Go.RowKit
def kW (x:Int×Int):List Value:=[.int .i64 x.1,.int .i64 x.2]
theorem wU (x:Int×Int):(kW x).length=2:=rfl
theorem OW (x:Int×Int):∀u∈kW x,u.oneCell'=true:=by intro u hu;unfold kW at hu;simp only[List.mem_cons,List.not_mem_nil,or_false] at hu;rcases hu with rfl|rfl <;> rfl
theorem Ta:(Tryz.prog.info? 257).map (fun i=>(i.zero,i.size,i.bytes))=some (some (.agg #[.int .i64 0,.int .i64 0]),2,16):=by kernel_rfl
theorem Im (W:World) (B n:Nat) (v:Value) (l:List (Int×Int)) (x y:Int) (hown:W.ownsRow B 257 2 v n (bn kW l)) (hn:n≤100000000) (hB:B≤W.heap.size) :
 ∃g cap w2,(Builtin.append_ #[253,253] 253 #[v,.slice (some ⟨W.heap.size,0,none⟩) 1 1]).run Tryz.prog (W.alloc (.cells #[.int .i64 x,.int .i64 y] 257))=.ok (.slice (some ⟨g,0,none⟩) (n+1) cap) w2∧ky W w2 B n 257 2 v (bn kW l) (kW (x,y)) g cap:=by
 obtain ⟨i0,iP,hz0,hz1,hz2⟩:=info_parts Ta;exact eY 253 257 i0 _ 2 16 Tryz.underlying253 iP hz0 hz1 hz2 rfl (by decide) (by decide) W B n v (bn kW l) (kW (x,y)) hown rfl (OW _) hn hB
theorem K9 {α:Type} {f:α→List Value} (hf:∀x,(f x).length=2) {l:List α} {i:Nat} {x:α} {a b:Value} (hi:i<l.length) (hx:f x=[a,b]):((bn f l).set (i*2) a).set (i*2+1) b=bn f (l.set i x):=by
 unfold bn;have hall:nJ 2 (l.map f):=fun q hq=>by obtain ⟨y,_,rfl⟩:=List.mem_map.1 hq;exact hf y
 obtain ⟨u,v,huv⟩:∃u v,f l[i]=[u,v]:=by
  have:=hf l[i]
  match h:f l[i],this with
  |[u,v],_=>exact ⟨u,v,rfl⟩
 have h1:(l.map f)[i]?=some [u,v]:=by rw[List.getElem?_map,List.getElem?_eq_getElem hi,← huv];rfl
 have e1:=qw (r:=0) a hall h1 (by decide);rw[Nat.add_zero] at e1;rw[e1];have afr:nJ 2 ((l.map f).set i ([u,v].set 0 a)):=fun q hq=>by
  rcases List.mem_or_eq_of_mem_set hq with hq|rfl
  ·exact hall q hq
  ·rfl
 have h2:((l.map f).set i ([u,v].set 0 a))[i]?=some [a,v]:=by rw[List.getElem?_set_self (by rw[List.length_map];exact hi)];rfl
 have e2:=qw (r:=1) b afr h2 (by decide);rw[e2,List.set_set,List.map_set,hx];rfl
theorem WC {α:Type} {w:World} {B g cap n:Nat} {e:TypeId} {f:α→List Value} (hf:∀x,(f x).length=2) {l:List α} (h:w.ownsRow B e 2 (.slice (some ⟨g,0,none⟩) n cap) n (bn f l)) {i:Nat} {x:α} {a b:Value} (hi:i<l.length) (hx:f x=[a,b]) :
 ((w.setCell ⟨g,i*2,none⟩ a).setCell ⟨g,i*2+1,none⟩ b).ownsRow B e 2 (.slice (some ⟨g,0,none⟩) n cap) n (bn f (l.set i x)):=by
 have hlen:=lV hf l;have h1:=l9 h (i*2) a (by omega);have h2:=l9 h1 (i*2+1) b (by rw[List.length_set];omega);rw[K9 hf hi hx] at h2;exact h2
def nR (w:World) (o:Option (List (Int×Int))) (e:Ending) (w':World):Prop:=match o with
 |none=>e=.returned (.tuple #[.slice none 0 0,.bool false])∧Bw w w'
 |some l=>∃v,e=.returned (.tuple #[v,.bool true])∧w'.ownsRow w.heap.size 257 2 v l.length (bn kW l)∧Bw w w'
theorem nR.no {w w':World} {o:Option (List (Int×Int))} (h:o=none) (hb:Bw w w'):nR w o (.returned (.tuple #[.slice none 0 0,.bool false])) w':=by subst h;exact ⟨rfl,hb⟩
theorem nR.yes {w w':World} {o:Option (List (Int×Int))} {l:List (Int×Int)} {v:Value} {n:Nat} (h:o=some l) (hn:l.length=n) (hr:w'.ownsRow w.heap.size 257 2 v n (bn kW l)) (hb:Bw w w'):nR w o (.returned (.tuple #[v,.bool true])) w':=by subst h;subst hn;exact ⟨v,rfl,hr,hb⟩
theorem OX {l:List Int} (h:¬l.length≤300):gR l=none:=by unfold gR;rw[if_neg];unfold r9;simp only[Bool.and_eq_true,decide_eq_true_eq];exact fun h2=>h h2.1.1
theorem OY {l:List Int} {k:Nat} {x:Int} (hx:l[k]?=some x) (h:¬(0≤x∧x≤15)):gR l=none:=by unfold gR;rw[if_neg];unfold r9;simp only[Bool.and_eq_true,decide_eq_true_eq,List.all_eq_true];exact fun h2=>h (h2.1.2 x (List.mem_of_getElem? hx))
theorem La {l:List Int} (h:¬iD l≤32768):gR l=none:=by unfold gR;rw[if_neg];unfold r9;simp only[Bool.and_eq_true,decide_eq_true_eq];exact fun h2=>h h2.2
theorem OZ {l:List Int} (h1:l.length≤300) (h2:∀(j:Nat) x,j<l.length→l[j]?=some x→0≤x∧x≤15) (h3:iD l≤32768):gR l=some (ll l 15 1 (List.replicate l.length (0,0)) 0):=by unfold gR;rw[if_pos];unfold r9;simp only[Bool.and_eq_true,decide_eq_true_eq,List.all_eq_true];refine ⟨⟨h1,fun x hx=>?_⟩,h3⟩;obtain ⟨j,hj⟩:=List.getElem?_of_mem hx;exact h2 j x (List.getElem?_eq_some_iff.1 hj).1 hj
theorem Lb {n:Int} {l:List Int} {k:Nat} {x:Int} {out:List (Int×Int)} {nx:Int} (hx:l[k]?=some x):iE n (l.drop k) k out nx=if x=n then iE n (l.drop (k+1)) (k+1) (out.set k (n,nx)) (nx+1) else iE n (l.drop (k+1)) (k+1) out nx:=by rw[Il hx,iE]
def Z9 (w:World) (l:List Int) (N:Nat) (v i:Value) (wr:World):Prop:=
 ∃(k g cap:Nat),k≤N∧i=.int .i64 k∧v=.slice (some ⟨g,0,none⟩) k cap∧wr.ownsRow w.heap.size 257 2 (.slice (some ⟨g,0,none⟩) k cap) k (bn kW (List.replicate k (0,0)))∧(∀(j:Nat) x,j<k→l[j]?=some x→0≤x∧x≤15)∧Bw w wr
def aaa (w:World) (l:List Int) (N g cap:Nat) (nx n:Value) (wr:World):Prop:=
 ∃(m:Nat) (y:Int) (out:List (Int×Int)),m≤15∧n=.int .i64 ((m:Int)+1)∧nx=.int .i64 y∧0≤y∧Hid (y≤iV m)∧out.length=N∧wr.ownsRow w.heap.size 257 2 (.slice (some ⟨g,0,none⟩) N cap) N (bn kW out)∧ll l (15-m) ((m:Int)+1) out y=ll l 15 1 (List.replicate N (0,0)) 0∧Bw w wr
def aab (w:World) (l:List Int) (N g cap:Nat) (n y:Int) (t:List (Int×Int)×Int) (nx i:Value) (wr:World):Prop:=
 ∃(k:Nat) (z:Int) (out:List (Int×Int)),k≤N∧i=.int .i64 k∧nx=.int .i64 z∧0≤z∧Hid (z≤y+k)∧out.length=N∧wr.ownsRow w.heap.size 257 2 (.slice (some ⟨g,0,none⟩) N cap) N (bn kW out)∧iE n (l.drop k) k out z=t∧Bw w wr
theorem Lc {y:Int} {m:Nat} (h0:0≤y) (h:y≤iV m) (hm:m≤15):wrap64 (2*y)=2*y:=by
 have h1:=tT hm;have e:iV 15≤1000000000:=by decide
 unfold wrap64;omega
theorem Io {y z:Int} {m k:Nat} (h0:0≤z) (hz:z≤2*y+k) (h:y≤iV m) (hm:m≤15) (hk:k≤300):wrap64 (z+1)=z+1:=by
 have h1:=tT hm;have e:iV 15≤1000000000:=by decide
 unfold wrap64;omega
theorem O0 (l:List Int) (v1:Value) (w:World) (h1:fD w v1 l) (hl:l.length≤1000):Calls Tryz.prog 207 #[v1] w (nR w (gR l)):=by
 have HV:=aa h1;obtain ⟨p,c,rfl,hc1,hc2,ha⟩:=h1;have HA:=aa ha;obtain ⟨N,hN⟩:=aG l.length;rw[hN] at hc1 hl HV;rw[hN];have HN:=aa hN;clear ha;have b0:(N:Int)≤1000:=by omega
 by_cases h300:N≤300
 case neg=>
  have HF:=aa (OX (l:=l) (by rw[hN];exact h300));have d1:decide ((N:Int)>300)=true:=by simp;omega
  have d2:decide (300<N)=true:=by simp;omega
  have d3:(300:Int)<(N:Int):=by omega
  clear hN hl hc1 hc2 h300;go_enter Tryz.func207,Tryz.ntmps207;go_wp2_with fail;refine au (nR.no HF aH) ?_;simp[results,Tryz.results207,go_sem]
 have HK:=aa (fun (W:World) (hb:Bw w W)=>K5 l _ W (HV.keep (af hb)) (by rw[hN];exact h300));have b1:(N:Int)≤300:=by omega
 have WD:=aa h300;have d2:decide (300<N)=false:=by simp;omega
 clear hN hl hc1 hc2 h300;have xI:=aa (World.ownsRow_made w #[] 0 (Nat.le_refl w.heap.size) (by unfold maxLen;omega) rfl:(w.alloc (.cells #[] 257)).ownsRow w.heap.size 257 2 (.slice (some ⟨w.heap.size,0,none⟩) 0 0) 0 []);go_enter Tryz.func207,Tryz.ntmps207;go_wp2_with fail;go_loopw [4,5] (fun v i wr=>Z9 w l N v i wr) (fun _ i _=>N-(intOf i).toNat)
 case atStart=>exact ⟨0,_,_,dQ,rfl,rfl,xI,fun j x hj=>by omega,aq⟩
 case round=>
  obtain ⟨k,g,cap,hk,rfl,rfl,hrow,hall,hb⟩:=hrel;have bY:=aa hrow;have pW:=aa hall;have HB:=aa hb;clear hrow hall hb xI;by_cases hlt:k<N
  ·have fO:(k:Int)<(N:Int):=by omega
   obtain ⟨x,hx⟩:=fy (l:=l) (k:=k) (by rw[HN.o];exact hlt);obtain ⟨SZ,g1,o,rfl,r0⟩:=HA.o k x hx;replace r0:=ae HB r0;have HX:=aa hx;clear hx SZ;by_cases pV:0≤x∧x≤15
   ·obtain ⟨x0,x15⟩:=pV
    obtain ⟨g2,c2,w2,hrun,cj⟩:=Im wr w.heap.size k _ (List.replicate k (0,0)) 0 0 bY (by have:=WD.o;omega) HB.size;have dM:=aa hrun;have nB:=aa (show w2.ownsRow w.heap.size 257 2 (.slice (some ⟨g2,0,none⟩) (k+1) c2) (k+1) (bn kW (List.replicate (k+1) (0,0))) by rw[List.replicate_succ',← fF];exact cj.row);have bU:=aa (HB.trans cj.below);clear hrun cj;have EB:decide (x<0)=false:=by simp;omega
    go_wp2_with (at_builtin;refine Lib.wpList_append_run _ rfl _ _ _ _ rfl _ _ rfl rfl _ _ dM.o ?_);go_roundw
    case rel=>exact ⟨k+1,_,_,by omega,by go_num,rfl,nB.o,fun j y hj hy=>by
     by_cases e:j=k
     ·subst e;rw[HX.o] at hy;cases hy;exact ⟨x0,x15⟩
     ·exact pW.o j y (by omega) hy,bU.o⟩
    case measure=>simp[intOf];omega
   ·have HF:=aa (OY HX pV)
    have hc:x<0∨(¬x<0∧15<x):=(by omega);clear pV;rcases hc with c1|⟨c1,c2⟩
    ·have EB:decide (x<0)=true:=by simp;omega
     go_wp2_with fail;refine au (nR.no HF HB) ?_;simp[results,Tryz.results207,go_sem]
    ·have EB:decide (x<0)=false:=by simp;omega
     go_wp2_with fail;refine au (nR.no HF HB) ?_;simp[results,Tryz.results207,go_sem]
  ·obtain rfl:k=N:=by omega
   by_cases UL:iD l≤32768
   case neg=>
    have HF:=aa (La UL);have EB:decide (32768<iD l)=true:=by simp;omega
    clear UL;go_wp2_with (go_at_call 223;(with_reducible refine (HK.o _ HB.o).mono ?_);rintro e w5 ⟨rfl,aR⟩;have bA:=aV HB aR;clear aR);refine au (nR.no HF bA) ?_;simp[results,Tryz.results207,go_sem]
   have HF:=aa (OZ (l:=l) (by rw[HN.o];exact WD) (fun j x hj hx=>pW j x (by rw[HN.o] at hj;exact hj) hx) UL);have EB:decide (32768<iD l)=false:=by simp;omega
   rw[HN.o] at HF;clear UL;go_wp2_with (go_at_call 223;(with_reducible refine (HK.o _ HB.o).mono ?_);rintro e w5 ⟨rfl,aR⟩;have bA:=aV HB aR;have afs:=aa (aM bY.o aR);clear aR);clear EB;go_loopw [6,7,8] (fun nx n _ wy=>aaa w l k g cap nx n wy) (fun _ n _ _=>16-(intOf n).toNat)
   case atStart=>exact ⟨0,0,List.replicate k (0,0),by omega,rfl,rfl,Int.le_refl _,aa (Int.le_refl _),by simp,afs,rfl,bA⟩
   case round=>
    obtain ⟨m,y,out,hm,rfl,rfl,hy0,hy,hol,hrow,hcg,hb⟩:=hrel;have HY:=hy;have HOL:=aa hol;have UB:=aa hrow;have HCG:=aa hcg;have vX:=aa hb;clear hy hol hrow hcg hb;by_cases jh:m<15
    ·have Y4:(m:Int)+1≤15:=by omega
     have Zf:=Lc hy0 HY hm;obtain ⟨t,ht⟩:=aG (iE ((m:Int)+1) l 0 out (2*y));have afu:=aa (show ll l (15-(m+1)) ((m:Int)+1+1) t.1 t.2=ll l 15 1 (List.replicate k (0,0)) 0 by
      rw[← HCG.o,show 15-m=(15-(m+1))+1 by omega,ll,ht])
     have HT:=aa ht;have HWY:=aa Zf;have NZ:0≤2*y:=by omega
     obtain ⟨wo,rfl⟩:∃wo:World,wo=wr:=⟨_,rfl⟩
     clear ht;go_wp2_with fail;go_loopw [6,8] (fun nx i wz=>aab w l k g cap ((m:Int)+1) (2*y) t nx i wz) (fun _ i _=>k-(intOf i).toNat)
     case atStart=>exact ⟨0,2*y,out,dQ,rfl,by rw[Zf],NZ,aa (by omega),HOL,UB,HT,vX⟩
     case round=>
      obtain ⟨j,z,o2,hj,rfl,rfl,hz0,hz,hol,hrow,hst,hb⟩:=hrel;have HZ:=hz;have Tb:=aa hol;have Ip:=aa hrow;have HST:=aa hst;have bU:=aa hb;clear hz hol hrow hst hb;by_cases hlt3:j<k
      ·have FI:(j:Int)<(k:Int):=by omega
       obtain ⟨x,hx⟩:=fy (l:=l) (k:=j) (by rw[HN.o];exact hlt3);obtain ⟨_,g1,o1,rfl,r0⟩:=HA.o j x hx;replace r0:=ae bU r0;have yN:=aa (Lb (n:=(m:Int)+1) (out:=o2) (nx:=z) hx);clear hx;by_cases zU:x=(m:Int)+1
       ·have EB:(x==(m:Int)+1)=true:=by simp[zU]
        rw[if_pos zU] at yN;have R3:=aa (WC wU Ip (i:=j) (x:=((m:Int)+1,z)) (by rw[Tb.o];exact hlt3) rfl);obtain ⟨q,hq⟩:=fy (l:=o2) (k:=j) (by rw[Tb.o];exact hlt3);have hcq:∀i u,(kW q)[i]?=some u→wr.cell? ⟨g,j*2+i,none⟩=some u:=fun i u hi=>by obtain ⟨h6,h7⟩:=List.getElem?_eq_some_iff.1 (eQ wU o2 j q i u hq hi);rw[bJ Ip.o _ h6,h7]
        have s0:wr.cell? ⟨g,j*2,none⟩=some (.int .i64 q.1):=hcq 0 _ rfl;have s1:wr.cell? ⟨g,j*2+1,none⟩=some (.int .i64 q.2):=hcq 1 _ rfl;have f0:=gC Ip (j*2);have f1:=gC Ip (j*2+1);have HZW:=aa (Io hz0 HZ HY hm (by have:=WD.o;omega));have hzw:=HZW.o;have dG:=aa (show Bw w ((wr.setCell ⟨g,j*2,none⟩ (.int .i64 ((m:Int)+1))).setCell ⟨g,j*2+1,none⟩ (.int .i64 z)) from (bU.setCell (Ip.lt g rfl).1 _).setCell (Ip.lt g rfl).1 _);have HZ1:=aa (show z+1≤2*y+((j+1:Nat):Int) by have:=HZ.o;omega);clear hcq hq zU;go_wp2_with fail;go_roundw
        case rel=>exact ⟨j+1,z+1,_,by omega,by go_num,by rw[HZW.o],by omega,aa HZ1.o,by rw[List.length_set];exact Tb.o,R3.o,by rw[← HST.o,yN.o],dG.o⟩
        case measure=>simp[intOf];omega
       ·have EB:(x==(m:Int)+1)=false:=by simp[zU]
        rw[if_neg zU] at yN;have HZ1:=aa (show z≤2*y+((j+1:Nat):Int) by have:=HZ.o;omega);clear zU;go_wp2_with fail;go_roundw
        case rel=>exact ⟨j+1,z,_,by omega,by go_num,rfl,hz0,aa HZ1.o,Tb.o,Ip.o,by rw[← HST.o,yN.o],bU.o⟩
        case measure=>simp[intOf];omega
      ·obtain rfl:j=k:=by omega
       have Zb:=aa (show t=(o2,z) by rw[← HST.o,List.drop_of_length_le (by rw[HN.o];exact aT)];rfl);rw[Zb.o] at afu;have ym:=aa (show z≤iV (m+1) by
        have h1:=HZ.o;have h2:=HY.o;have h3:=WD.o;have e:iV (m+1)=2*iV m+300:=rfl;omega)
       go_wp2_with fail;go_roundw
       case rel=>exact ⟨m+1,z,o2,by omega,by go_num,rfl,hz0,aa ym.o,Tb.o,Ip.o,by have:=afu.o;rw[← this];congr 1,bU.o⟩
       case measure=>simp[intOf];omega
    ·obtain rfl:m=15:=by omega
     have Ld:=aa (show gR l=some out by rw[HF.o,← HCG.o];rfl);go_wp2_with fail;refine au (nR.yes Ld HOL UB vX) ?_;simp[results,Tryz.results207,go_sem]
theorem O1 {l:List Int} {s:Int} (h:gR l=none):jZ l s=none:=by unfold jZ;rw[h]
theorem tV {l:List Int} {s:Int} {c:List (Int×Int)} (h:gR l=some c) (h2:¬(0≤s∧s<l.length∧¬(l[s.toNat]?).getD 0=0)):jZ l s=none:=by unfold jZ;rw[h];simp only;rw[if_neg h2]
theorem O2 {l:List Int} {k:Nat} {c:List (Int×Int)} {x:Int} {y:Int×Int} (h:gR l=some c) (hx:l[k]?=some x) (h0:¬x=0) (hy:c[k]?=some y):jZ l k=sQ [] y.2 y.1:=by unfold jZ;rw[h];simp only;have:=(List.getElem?_eq_some_iff.1 hx).1;rw[if_pos ⟨by omega,by omega,by rw[Int.toNat_natCast,hx];exact h0⟩,Int.toNat_natCast,hy];rfl
theorem O3 {w:World} {B g cap n:Nat} {e:TypeId} {c:List (Int×Int)} (h:w.ownsRow B e 2 (.slice (some ⟨g,0,none⟩) n cap) n (bn kW c)) {k:Nat} {y:Int×Int} (hy:c[k]?=some y):w.cell? ⟨g,k*2,none⟩=some (.int .i64 y.1)∧w.cell? ⟨g,k*2+1,none⟩=some (.int .i64 y.2):=by
 have hc:∀j u,(kW y)[j]?=some u→w.cell? ⟨g,k*2+j,none⟩=some u:=fun j u hj=>by obtain ⟨h6,h7⟩:=List.getElem?_eq_some_iff.1 (eQ wU c k y j u hy hj);rw[bJ h _ h6,h7]
 exact ⟨hc 0 _ rfl,hc 1 _ rfl⟩
theorem cP.below {w W W':World} {o:Option (List Bool)} {e:Ending} (hb:Bw w W) (h:cP W o e W'):cP w o e W':=by
 unfold cP at *;cases o with
 |none=>exact ⟨h.1,ak hb h.2⟩
 |some l=>obtain ⟨v,h1,h2,h3⟩:=h;exact ⟨v,h1,bC hb.size h2,ak hb h3⟩
theorem cP.tuple {w w':World} {o:Option (List Bool)} {e:Ending} (h:cP w o e w'):∃v b,e=.returned (.tuple #[v,.bool b]):=by
 unfold cP at h;cases o with
 |none=>exact ⟨_,_,h.1⟩
 |some l=>obtain ⟨v,h1,_⟩:=h;exact ⟨_,_,h1⟩
theorem cP.bel {w w':World} {o:Option (List Bool)} {e:Ending} (h:cP w o e w'):Bw w w':=by
 unfold cP at h;cases o with
 |none=>exact h.2
 |some l=>obtain ⟨_,_,_,h⟩:=h;exact h
theorem Le (l:List Int) (s:Int) (v1:Value) (w:World) (h1:fD w v1 l) (hl:l.length≤1000):Calls Tryz.prog 211 #[v1,.int .i64 s] w (cP w (jZ l s)):=by
 have HC:=aa (O0 l v1 w h1 hl);obtain ⟨p,c,rfl,hc1,hc2,ha⟩:=h1;have HA:=aa ha;obtain ⟨N,hN⟩:=aG l.length;rw[hN] at hc1 hl HC;rw[hN];have HN:=aa hN;have b0:(N:Int)≤1000:=by omega
 clear ha hN hl hc1 hc2;cases hco:gR l with
 |none=>have HF:=aa (O1 (s:=s) hco);have JQ:=aa hco;clear hco;go_enter Tryz.func211,Tryz.ntmps211;go_wp2_with (go_at_call 207;(with_reducible refine HC.o.mono ?_);rintro e w5 hp;rw[JQ.o] at hp;obtain ⟨rfl,aR⟩:=hp;have bA:=aa aR;clear aR);refine au (cP.no HF bA) ?_;simp[results,Tryz.results211,go_sem]
 |some cs=>
  have JQ:=aa hco;have tG:=aa (show cs.length=N by rw[K1 hco,HN.o]);have FQ:=aa (OD hco);clear hco;by_cases hs0:s<0
  ·have HF:=aa (tV (s:=s) JQ (by omega))
   go_enter Tryz.func211,Tryz.ntmps211;go_wp2_with (go_at_call 207;(with_reducible refine HC.o.mono ?_);rintro e w5 hp;rw[JQ.o] at hp;obtain ⟨v5,rfl,yu,aR⟩:=hp;have bA:=aa aR;clear aR yu);refine au (cP.no HF bA) ?_;simp[results,Tryz.results211,go_sem]
  by_cases hsN:(N:Int)≤s
  ·have HF:=aa (tV (s:=s) JQ (by rw[HN.o];omega))
   go_enter Tryz.func211,Tryz.ntmps211;go_wp2_with (go_at_call 207;(with_reducible refine HC.o.mono ?_);rintro e w5 hp;rw[JQ.o] at hp;obtain ⟨v5,rfl,yu,aR⟩:=hp;have bA:=aa aR;clear aR yu);refine au (cP.no HF bA) ?_;simp[results,Tryz.results211,go_sem]
  obtain ⟨k,rfl⟩:∃k:Nat,s=k:=⟨s.toNat,by omega⟩
  have hkN:(k:Int)<(N:Int):=by omega
  have Np:(0:Int)≤(k:Int):=by omega
  obtain ⟨x,hx⟩:=fy (l:=l) (k:=k) (by rw[HN.o];omega);obtain ⟨SZ,g,o,rfl,r0⟩:=HA.o k x hx;have xI:=aa r0;have HX:=aa hx;have d2:decide (N≤k)=false:=by simp;omega
  clear hs0 hsN hx r0 SZ;by_cases hx0:x=0
  ·have HF:=aa (tV (s:=(k:Int)) JQ (by rw[Int.toNat_natCast,HX.o];simp[hx0]))
   have d1:(x==0)=true:=(by simp[hx0]);subst hx0;go_enter Tryz.func211,Tryz.ntmps211;go_wp2_with (go_at_call 207;(with_reducible refine HC.o.mono ?_);rintro e w5 hp;rw[JQ.o] at hp;obtain ⟨v5,rfl,yu,aR⟩:=hp;have bA:=aa aR;have r1:=ae aR xI.o;clear aR yu);refine au (cP.no HF bA) ?_;simp[results,Tryz.results211,go_sem]
  ·have d1:(x==0)=false:=by simp[hx0]
   obtain ⟨⟨cl,cb⟩,hy⟩:∃y,cs[k]?=some y:=⟨_,List.getElem?_eq_getElem (by rw[tG.o];omega)⟩
   have HF:=aa (O2 JQ HX hx0 hy);have HYB:=aa (FQ.o _ (List.mem_of_getElem? hy));have HY:=aa hy;clear hx0 hy;go_enter Tryz.func211,Tryz.ntmps211;go_upto_region 6 with (go_at_call 207;(with_reducible refine HC.o.mono ?_);rintro e w5 hp;rw[JQ.o] at hp;obtain ⟨v5,rfl,yu,aR⟩:=hp;rw[tG.o] at yu;have bA:=aa aR;have oG:=aa yu;have r1:=ae aR xI.o;clear aR yu);clear r1;rcases aK oG.o with ⟨_,e,_⟩|⟨gc,cc,rfl⟩
   ·omega
   obtain ⟨y0,y1⟩:=O3 oG HY.o;simp only at y0 y1;have hdr:Bw w5 w5.drew:=aH.drew;have HS:=aa (And.intro (ae hdr y0) (ae hdr y1));have HP:=aa (MG [] cb cl (.slice none 0 0) w5.drew (iJ _) (by simp) (by have h:=HYB.o;exact Int.le_trans h.2.2.2 (by decide)));have hkc:(k:Int)≤(cc:Int):=by have:=(J6 oG).2.1;omega
   clear hdr;go_region_held3 (fun w'=>w'.cell? ⟨gc,k*2,none⟩=some (.int .i64 cl)∧w'.cell? ⟨gc,k*2+1,none⟩=some (.int .i64 cb))
    (first|with_reducible exact HS.o|with_reducible exact Dh.o)
    (((with_reducible refine HP.o.mono ?_);rintro e w6 Tc;have Dh:=aa (And.intro (ae Tc.bel HS.o.1) (ae Tc.bel HS.o.2));obtain ⟨v6,b6,rfl⟩:=Tc.tuple;have WE:=aa Tc;clear Tc))
   go_wp2_with fail;have alq:=aa (show cP w (jZ l k) (.returned (.tuple #[v6,.bool b6])) w6 by
    rw[HF.o];exact WE.below (bA.trans ((aH.drew (w:=w5)).mono bA.size)))
   refine au alq ?_;simp[results,Tryz.results211,go_sem]
theorem A1 (x y z:Int) (w:World):Calls Tryz.prog 208 #[.agg #[.int .i64 x,.int .i64 y,.int .i64 z]] w fun e w'=>e=.returned (.int .i64 (gS ⟨x,y,z⟩))∧Bw w w':=by
 obtain ⟨W1,hW1⟩:=aG (w.alloc (.cells #[.int .i64 x,.int .i64 y,.int .i64 z] 226));have aZ:=aa (show Bw w W1 by rw[← hW1];exact aq);have aU:=aa (show MZ W1 w.heap.size x y z by rw[← hW1];exact MZ.new w x y z _);have ed:=aa hW1;clear hW1;go_enter Tryz.func208,Tryz.ntmps208;go_upto_region 1 with fail;rw[ed.o];obtain ⟨x0,x1,x2⟩:=aU.o;cases hm:jW ⟨x,y,z⟩ with
 |false=>have HF:=aa (show gS ⟨x,y,z⟩ = -1 by unfold gS;rw[if_neg (by rw[hm];simp)]);have HM:=aa hm;clear hm;go_wp2_with (go_at_call 181;(with_reducible refine (oH x y z _).mono ?_);rintro e w5 ⟨rfl,aR⟩;rw[HM.o];have bA:=aV aZ aR;clear aR);go_ret;exact ⟨kP (by rw[HF.o]),bA⟩
 |true=>
  have HM:=aa hm;have hcs:=qN hm;simp only at hcs;have HSY:=aa (show gS ⟨x,y,z⟩=if 0<z then 253+z else x by unfold gS;rw[if_pos hm]);clear hm;rcases hcs with ⟨rfl,rfl,h3,h4⟩|⟨rfl,h2,h3,h4,h5⟩
  ·go_wp2_with (go_at_call 181;(with_reducible refine (oH x 0 0 _).mono ?_);rintro e w5 ⟨rfl,aR⟩;rw[HM.o];have y0:=ae aR aU.o.1;have y2:=ae aR aU.o.2.2;have bA:=aV aZ aR;clear aR)
   go_ret;exact ⟨kP (by rw[HSY.o,if_neg (by omega)]),bA.o⟩
  ·have d1:decide (0<z)=true:=by simp;omega
   go_wp2_with (go_at_call 181;(with_reducible refine (oH 0 y z _).mono ?_);rintro e w5 ⟨rfl,aR⟩;rw[HM.o];have y0:=ae aR aU.o.1;have y2:=ae aR aU.o.2.2;have bA:=aV aZ aR;clear aR);go_ret;exact ⟨kP (by rw[HSY.o,if_pos (by omega)]),bA⟩
theorem ve (b:List Bool) (n wd:Nat) (d:Int) (hd:d=(wd:Nat)) (v:Value) (w:World) (h:dA w v b) (hl:b.length≤1000000) (h1:wd≤30) (h2:n<2 ^ wd):Calls Tryz.prog 210 #[v,.int .i64 n,.int .i64 d] w fun e w'=>∃v',e=.returned v'∧w'.ownsRow w.heap.size 4 1 v' (b.length+wd) (bS (b++bitsOf n wd))∧Bw w w':=by
 subst hd;have hn:(n:Int)≤1000000000000:=by have:=(wG h1).2;omega
 have HP:=aa (MG b n wd v w h hl hn);rw[De h1 h2] at HP;have HL:=aa (show (b++bitsOf n wd).length=b.length+wd by rw[List.length_append,eZ]);clear hn h hl h1 h2;go_enter Tryz.func210,Tryz.ntmps210;go_wp2_with (go_at_call 227;(with_reducible refine HP.o.mono ?_);rintro e w5 ⟨v5,rfl,yu,aR⟩;have bA:=aa aR;have oG:=aa yu;clear aR yu);go_ret;exact ⟨_,rfl,by have:=oG.o;rw[HL.o] at this;exact this,bA⟩
theorem M0:∀(l:List Int) (i:Nat) (x y:Int),l[i]?=some x→(l.set i y).sum=l.sum-x+y
 |[],i,x,y,h=>by simp at h
 |a::l,0,x,y,h=>by simp at h;subst h;simp only[List.set_cons_zero,List.sum_cons];omega
 |a::l,i+1,x,y,h=>by rw[List.getElem?_cons_succ] at h;rw[List.set_cons_succ,List.sum_cons,List.sum_cons,M0 l i x y h];omega
def qV (f:List Int) (k:Nat):Prop:=f.length=272∧(∀x∈f,0≤x)∧f.sum=k
theorem qV.step {f:List Int} {k:Nat} {s:Int} (h:qV f k) (h0:0≤s) (h1:s≤271):qV (gy f s) (k+1):=by obtain ⟨a,b,c⟩:=h;refine ⟨by rw[tO,a],Au s b,?_⟩;unfold gy;obtain ⟨x,hx⟩:=fy (l:=f) (k:=s.toNat) (by omega);rw[M0 _ _ x _ hx,hx,c];simp;omega
theorem M7:∀(l:List jR),(∀t∈l,jW t=true)→∀(f:List Int) (k:Nat),qV f k→qV (l.foldl (fun f t=>gy f (gS t)) f) (k+l.length)
 |[],_,f,k,h=>h
 |t::l,hm,f,k,h=>by have hb:=AY (hm t (by simp));have:=M7 l (fun x hx=>hm x (by simp[hx])) _ (k+1) (h.step hb.1 hb.2);rw[List.foldl_cons,List.length_cons,show k+(l.length+1)=k+1+l.length by omega];exact this
theorem M8:∀n:Nat,(List.replicate n (0:Int)).sum=0
 |0=>rfl
 |n+1=>by rw[List.replicate_succ,List.sum_cons,M8 n];rfl
theorem Lf:qV (List.replicate 272 0) 0:=⟨List.length_replicate,fun x hx=>by have:=(List.mem_replicate.1 hx).2;omega,M8 272⟩
theorem Td {l:List jR} (h:∀t∈l,jW t=true):qV (kd l) l.length:=by have:=M7 l h _ 0 Lf;rw[Nat.zero_add] at this;exact this
theorem O4 {l:List jR} {k:Nat} {t:jR} (h:l[k]?=some t):kd (l.take (k+1))=gy (kd (l.take k)) (gS t):=by unfold kd;rw[List.take_add_one,h,Option.toList,List.foldl_append];rfl
theorem Iq {l:List jR} (h:¬l.length≤1000):jy l=none:=by unfold jy;rw[if_neg (fun h2=>h h2.1)]
theorem Lg {l:List jR} {k:Nat} {t:jR} (hk:l[k]?=some t) (h:jW t=false):jy l=none:=by unfold jy;rw[if_neg];intro h2;have:=List.all_eq_true.1 h2.2 t (List.mem_of_getElem? hk);rw[h] at this;cases this
theorem Ir (n:List Int) (i:Nat):(zq n i).length≤13:=by unfold zq;split <;> simp[eZ]
theorem wV (n:List Int):∀i,(nD n i).length≤13*i
 |0=>by simp[nD]
 |i+1=>by have:=wV n i;have:=Ir n i;rw[nD,List.length_append];omega
theorem A4 (n:List Int):∀i,u9 n i≤i
 |0=>Nat.le_refl _
 |i+1=>by have:=A4 n i;unfold u9;split <;> omega
theorem O5 {b o:List Bool} {n wd:Int} (h:sQ b n wd=some o):o.length≤b.length+30:=by
 unfold sQ at h
 split at h
 ·cases h;rw[List.length_append,eZ];omega
 ·cases h
theorem Lh {l:List Int} {s:Int} {o:List Bool} (h:jZ l s=some o):o.length≤30:=by
 unfold jZ at h
 split at h
 ·cases h
 ·split at h
  ·have:=O5 h;simpa using this
  ·cases h
theorem A5 (l:List Int) (s:Int):((jZ l s).getD []).length≤30:=by
 cases h:jZ l s with
 |none=>simp
 |some o=>exact Lh h
theorem Li {n:List Int} {l:List jR} {k:Nat} {t:jR} (h:l[k]?=some t):gN n (l.take (k+1))=gN n (l.take k)++OE n t:=by unfold gN;rw[List.take_add_one,h,Option.toList,List.map_append,List.flatten_append];simp
theorem Te (n:List Int) (t:jR):(OE n t).length≤38:=by unfold OE;have:=A5 n (gS t);rw[List.length_append];split <;> simp[eZ] <;> omega
theorem wW (n:List Int):∀l:List jR,(gN n l).length≤38*l.length
 |[]=>by simp[gN]
 |t::l=>by have h1:=wW n l;have h2:=Te n t;unfold gN at *;rw[List.map_cons,List.flatten_cons,List.length_append,List.length_cons];omega
theorem Dz (W:World) (B n:Nat) (v v2:Value) (l m:List Bool) (h:W.ownsRow B 4 1 v n (bS l)) (h2:dA W v2 m) (hn:n≤10000000) (hm:m.length≤10000000) (hB:B≤W.heap.size) :
 ∃v' w',(Builtin.append_ #[24,24] 24 #[v,v2]).run Tryz.prog W=.ok v' w'∧w'.ownsRow B 4 1 v' (n+m.length) (bS (l++m))∧Below B W w':=by
 obtain ⟨i0,iP,hz0,hz1,hz2⟩:=info_parts qK;obtain ⟨p,c,rfl,hc,jq⟩:=h2.src;obtain ⟨v',w',r1,r2,r3⟩:=dP (P:=Tryz.prog) W B 24 24 4 i0 (.bool false) 1 1 Tryz.underlying24 iP hz0 hz1 hz2 rfl (by decide) v n _ h p m.length c (bS m) jq hc (by unfold maxLen;omega) (by omega) hB;refine ⟨v',w',r1,?_,fC r3 hB (fun k hk=>(h.lt k hk).1)⟩;unfold bS at *;rw[List.map_append];exact r2
theorem cP.bits {w w':World} {o:Option (List Bool)} {e:Ending} (h:cP w o e w'):∃v b,e=.returned (.tuple #[v,.bool b])∧dA w' v (o.getD [])∧Bw w w':=by
 unfold cP at h;cases o with
 |none=>exact ⟨_,_,h.1,iJ _,h.2⟩
 |some l=>obtain ⟨v,h1,h2,h3⟩:=h;exact ⟨_,_,h1,eI rfl h2,h3⟩
def Wr1 (w:World) (f i:Value) (wr:World):Prop:=∃k g cap:Nat,k≤272∧i=.int .i64 k∧f=.slice (some ⟨g,0,none⟩) k cap∧wr.ownsRow w.heap.size 3 1 (.slice (some ⟨g,0,none⟩) k cap) k (bB (List.replicate k 0))∧Bw w wr
def Wr2 (w:World) (l:List jR) (N g cap:Nat) (i:Value) (wr:World):Prop:=∃k:Nat,k≤N∧i=.int .i64 k∧(∀(j:Nat) t,j<k→l[j]?=some t→jW t=true)∧wr.ownsRow w.heap.size 3 1 (.slice (some ⟨g,0,none⟩) 272 cap) 272 (bB (kd (l.take k)))∧Bw w wr
def Wr3 (w7:World) (n:List Int) (many head i:Value) (wr:World):Prop:=∃(k m:Nat) (b:List Bool) (hv:Value),k≤272∧i=.int .i64 k∧hv=head∧m=u9 n k∧b=nD n k∧many=.int .i64 m∧wr.ownsRow w7.heap.size 4 1 hv b.length (bS b)∧Bw w7 wr
def Wr4 (w7:World) (n:List Int) (l:List jR) (pre:List Bool) (N:Nat) (out i:Value) (wr:World):Prop:=∃(k m:Nat) (hv:Value),k≤N∧i=.int .i64 k∧hv=out∧m=(pre++gN n (l.take k)).length∧wr.ownsRow w7.heap.size 4 1 hv m (bS (pre++gN n (l.take k)))∧Bw w7 wr
theorem Lj (l:List jR) (v1:Value) (w:World) (h1:dx w v1 3 gW l) (hl:l.length≤1000000):Calls Tryz.prog 182 #[v1] w (cP w (jy l)):=by
 obtain ⟨p,c,rfl,hc1,hc2,_,ha⟩:=h1;have HA:=aa ha;obtain ⟨N,hN⟩:=aG l.length;rw[hN] at hc1 hl;rw[hN];have HN:=aa hN;have b0:(N:Int)≤1000000:=by omega
 clear ha hN hl hc1 hc2;by_cases h1000:(1000:Int)<(N:Int)
 ·have HF:=aa (Iq (l:=l) (by rw[HN.o];omega))
  go_enter Tryz.func182,Tryz.ntmps182;go_wp2_with fail;refine au (cP.no HF aH) ?_;simp[results,Tryz.results182,go_sem]
 have b1:(N:Int)≤1000:=by omega
 clear h1000 b0;have xI:=aa (World.ownsRow_made w #[] 0 (Nat.le_refl w.heap.size) (by unfold maxLen;omega) rfl:(w.alloc (.cells #[] 3)).ownsRow w.heap.size 3 1 (.slice (some ⟨w.heap.size,0,none⟩) 0 0) 0 []);go_enter Tryz.func182,Tryz.ntmps182;go_wp2_with fail;go_loopw [4,5] (fun f i wr=>Wr1 w f i wr) (fun _ i _=>272-(intOf i).toNat)
 case atStart=>exact ⟨0,_,_,dQ,rfl,rfl,xI,aq⟩
 case round=>
  obtain ⟨k,gf,cf,hk,rfl,rfl,hro,hb⟩:=hrel;have AJ:=aa hro;have HB:=aa hb;clear hro hb xI;by_cases hlt:k<272
  ·have fO:(k:Int)<272:=by omega
   obtain ⟨g2,c2,w2,hrun,cj⟩:=xZ wr w.heap.size k _ (List.replicate k 0) 0 AJ (by omega) HB.size;have dM:=aa hrun;have Cs:=aa (show w2.ownsRow w.heap.size 3 1 (.slice (some ⟨g2,0,none⟩) (k+1) c2) (k+1) (bB (List.replicate (k+1) 0)) by rw[← Ig,← Az];exact cj.row);have bU:=aa (HB.trans cj.below);clear hrun cj;go_wp2_with (at_builtin;refine Lib.wpList_append_run _ rfl _ _ _ _ rfl _ _ rfl rfl _ _ dM.o ?_);go_roundw
   case rel=>exact ⟨k+1,_,_,by omega,by go_num,rfl,Cs.o,bU.o⟩
   case measure=>simp[intOf];omega
  obtain rfl:k=272:=by omega
  rw[show ((272:Nat):Int)=272 from rfl];go_wp2_with fail;go_loopw [6] (fun i wz=>Wr2 w l N gf cf i wz) (fun i _=>N-(intOf i).toNat)
  case atStart=>exact ⟨0,dQ,rfl,fun j t hj=>by omega,AJ,HB⟩
  case round=>
  obtain ⟨k,hk,rfl,hall,hro,hb⟩:=hrel;have pW:=aa hall;have S1:=aa hro;have bU:=aa hb;have Iu:=aa (show qV (kd (l.take k)) k by
   have:=Td (l:=l.take k) (fun t ht=>by
    obtain ⟨j,hj⟩:=List.getElem?_of_mem ht;have Ez:=(List.getElem?_eq_some_iff.1 hj).1;rw[List.length_take] at Ez;rw[List.getElem?_take_of_lt (by omega)] at hj;exact hall j t (by omega) hj)
   rw[List.length_take,HN.o,Nat.min_eq_left hk] at this;exact this)
  clear hall hro hb;by_cases hlt:k<N
  ·have fO:(k:Int)<(N:Int):=by omega
   obtain ⟨⟨x,y,z⟩,hs⟩:∃s,l[k]?=some s:=⟨_,List.getElem?_eq_getElem (by rw[HN.o];exact hlt)⟩
   obtain ⟨gt,ot,rfl,hcell⟩:=HA.o k _ hs;have r0:=ae bU (hcell 0 _ rfl);have r1:=ae bU (hcell 1 _ rfl);have r2:=ae bU (hcell 2 _ rfl);replace r0:wr.cell? ⟨gt,ot+k*3,none⟩=some (.int .i64 x):=r0;replace r1:wr.cell? ⟨gt,ot+k*3+1,none⟩=some (.int .i64 y):=r1;replace r2:wr.cell? ⟨gt,ot+k*3+2,none⟩=some (.int .i64 z):=r2;have HS:=aa hs;have UH:=aa (And.intro r0 (And.intro r1 r2));clear hcell hs;cases hm:jW ⟨x,y,z⟩ with
   |false=>have HF:=aa (Lg HS hm);have HM:=aa hm;clear hm;go_wp2_with (go_at_call 181;(with_reducible refine (oH x y z _).mono ?_);rintro e w5 ⟨rfl,aR⟩;rw[HM.o];have bA:=aV bU aR;clear aR);refine au (cP.no HF bA) ?_;simp[results,Tryz.results182,go_sem]
   |true=>
    have HM:=aa hm;have mA:=aa (AY hm);have HFS:=aa (O4 HS);clear hm;obtain ⟨s,UM⟩:=aG (gS ⟨x,y,z⟩);rw[UM] at mA HFS;have HSY:=aa UM;clear UM;obtain ⟨q,rfl⟩:∃q:Nat,s=q:=⟨s.toNat,by have:=mA.o;omega⟩
    have apj:(q:Int)<272:=by have:=mA.o;omega
    have hq0:(0:Int)≤(q:Int):=(by omega);go_upto_region 13 with (go_at_call 181;(with_reducible refine (oH x y z _).mono ?_);rintro e w5 ⟨rfl,aR⟩;rw[HM.o];have bA:=aa aR;clear aR);clear r0 r1 r2;have r0:=ae bA UH.1;have r1:=ae bA UH.2.1;have r2:=ae bA UH.2.2;obtain ⟨y0,hy⟩:∃y0,(kd (l.take k))[q]?=some y0:=⟨_,List.getElem?_eq_getElem (by rw[Iu.o.1];omega)⟩
    have hy0:=Iu.2.1 y0 (List.mem_of_getElem? hy);have hy1:y0≤1000:=pA Iu.2.1 (by rw[Iu.o.2.2];omega) y0 (List.mem_of_getElem? hy);have HY:=aa hy;have Vu:=aa (fun (W:World) (hb:Bw w5 W)=>aM (aM S1 bA) hb);clear hy;go_wp2_with (go_at_call 208;(with_reducible refine (A1 x y z _).mono ?_);rintro e w6 ⟨rfl,cW⟩;rw[HSY.o];have cQ:=aa cW;have c0:=AB (Vu.o _ cW) HY.o;have f0:=gC (Vu.o _ cW) q;clear cW);have rU:=aa (Vu.o _ cQ);have oD:=aa (show (w6.setCell ⟨gf,q,none⟩ (.int .i64 (y0+1))).ownsRow w.heap.size 3 1 (.slice (some ⟨gf,0,none⟩) 272 cf) 272 (bB (kd (l.take (k+1)))) by
     have h:=l9 rU q (.int .i64 (y0+1)) (by unfold bB;rw[List.length_map,Iu.o.1];omega);rw[HFS.o];unfold gy;rw[Int.toNat_natCast,HY.o,Option.getD_some,← rX];exact h)
    have ux:=aa ((ak bU (ak bA cQ)).setCell (p:=⟨gf,q,none⟩) (rU.lt gf rfl).1 (.int .i64 (y0+1)));go_roundw
    case rel=>exact ⟨k+1,by omega,by go_num,fun j t hj ht=>by
     by_cases e:j=k
     ·subst e;rw[HS.o] at ht;cases ht;exact HM.o
     ·exact pW.o j t (by omega) ht,oD.o,ux.o⟩
    case measure=>simp[intOf];omega
  obtain rfl:k=N:=by omega
  have sJ:=aa (show l.take k=l from List.take_of_length_le (by rw[HN.o];exact aT));rw[sJ.o] at S1 Iu;have Yw:=aa (show ∀t∈l,jW t=true from fun t ht=>by
   obtain ⟨j,hj⟩:=List.getElem?_of_mem ht;have Ez:=(List.getElem?_eq_some_iff.1 hj).1;rw[HN.o] at Ez;exact pW j t Ez hj)
  have HW7:=aa (show jy l=some (bitsOf (u9 (iT (kd l)) 272) 9++nD (iT (kd l)) 272++gN (iT (kd l)) l) by
   unfold jy;rw[if_pos ⟨by rw[HN.o];omega,List.all_eq_true.2 Yw⟩])
  have afv:=aa (show ∀x∈kd l,aP x from wT (fun x hx=>⟨Iu.2.1 x hx,pA Iu.2.1 (by rw[Iu.o.2.2];omega) x hx⟩));have hiv:=qB afv (by rw[Iu.o.1];exact S1);have ou:=aa (OP (kd l) _ wr hiv (by rw[Iu.o.1];decide) Iu.2.1 (by rw[Iu.o.2.2];omega));have rR:=aa (xX Iu.2.1 (by rw[Iu.o.2.2];omega));rw[Iu.o.1] at ou;obtain ⟨ns,hns⟩:=aG (iT (kd l));have lz:=aa (show ns.length=272 by rw[← hns,wF,Iu.o.1]);rw[hns] at ou rR HW7;clear hiv hns afv pW;go_upto_region 15 with (go_at_call 209;(with_reducible refine ou.o.mono ?_);rintro e w7 ⟨v7,rfl,VZ,dO⟩;have EZ:=aa VZ;have fg:=aV bU dO;clear VZ dO);rcases aK EZ.o with ⟨_,e,_⟩|⟨gn,cn,rfl⟩
  ·omega
  have HIV:=aa (show fD w7 (.slice (some ⟨gn,0,none⟩) 272 cn) ns from qB (wT (fun x hx=>by have:=rR.o x hx;omega)) (by rw[lz.o];exact EZ));have HH0:=aa (World.ownsRow_made w7 #[] 0 (Nat.le_refl w7.heap.size) (by unfold maxLen;omega) rfl:(w7.alloc (.cells #[] 4)).ownsRow w7.heap.size 4 1 (.slice (some ⟨w7.heap.size,0,none⟩) 0 0) 0 []);go_wp2_with fail;go_loopw [8,9,10] (fun many head i wz=>Wr3 w7 ns many head i wz) (fun _ _ i _=>272-(intOf i).toNat)
  case atStart=>exact ⟨0,0,[],_,dQ,rfl,rfl,rfl,rfl,rfl,HH0,aq⟩
  case round=>
  obtain ⟨j,m,b,hv,hj,rfl,rfl,hm,jf,rfl,hro,hb⟩:=hrel;have HM:=aa hm;have jr:=aa jf;have aaf:=aa hro;have dG:=aa hb;have vX:=aa (show b.length≤4000 by rw[jf];have:=wV ns j;omega);have apl:(m:Int)≤272:=by have:=A4 ns j;omega
  clear hm jf hro hb HH0;by_cases hlt:j<272
  ·have FI:(j:Int)<272:=by omega
   obtain ⟨x,hx⟩:=fy (l:=ns) (k:=j) (by rw[lz.o];exact hlt);obtain ⟨x0,x15⟩:=rR.o x (List.mem_of_getElem? hx);have r0:wr.cell? ⟨gn,j,none⟩=some (.int .i64 x):=ae dG (AB EZ hx);have hjc:(j:Int)<(cn:Int):=by have:=(J6 EZ).2.1;omega
   have HXX:=aa hx;have Kf:=aa r0;have HHN:=aa (show nD ns (j+1)=nD ns j++(if 0<x then bitsOf j 9++bitsOf x.toNat 4 else []) by rw[nD];unfold zq;rw[hx];rfl);have HMN:=aa (show u9 ns (j+1)=u9 ns j+if 0<x then 1 else 0 by rw[u9,hx];rfl);clear hx;by_cases hx0:0<x
   ·obtain ⟨X,rfl⟩:∃X:Nat,x=X:=⟨x.toNat,by omega⟩
    rw[if_pos hx0] at HHN HMN;have d1:decide ((0:Int)<(X:Int))=true:=by simp;omega
    have d2:decide (0<X)=true:=by simp;omega
    have hdr:Bw wr wr.drew:=aH.drew;have yP:=aa (eI rfl aaf);have HP1:=aa (ve b j 9 9 rfl hv wr.drew (yP.keep (af hdr)) (by have:=vX.o;omega) (by decide) (by
     have e:(2:Nat) ^ 9=512:=(by decide);omega))
    have pT:=aa (fun (W:World) (v:Value) (h:dA W v (b++bitsOf j 9))=>ve (b++bitsOf j 9) X 4 4 rfl v W h (by rw[List.length_append,eZ];have:=vX.o;omega) (by decide) (by
     have e:(2:Nat) ^ 4=16:=(by decide);omega))
    have HL9:=aa (show (b++bitsOf j 9).length=b.length+9 by rw[List.length_append,eZ]);have HS:=aa (ae hdr r0);have Zi:=aa hdr;clear hdr;go_upto_region 22 with fail;go_region_held3 (fun w'=>w'.cell? ⟨gn,j,none⟩=some (.int .i64 (X:Nat))) (first|with_reducible exact HS.o|with_reducible exact UN.o|with_reducible exact Dh.o)
     (first|((with_reducible refine HP1.o.mono ?_);rintro e w5 ⟨v5,rfl,yu,aR⟩;have bA:=aa (Zi.o.trans aR);have oG:=aa yu;have UN:=aa (ae aR HS.o);have HBV:=aa (eI HL9.o yu);clear yu aR)|((with_reducible refine (pT.o _ _ HBV.o).mono ?_);rintro e w6 ⟨v6,rfl,Sk,cW⟩;have cQ:=aV bA cW;have rU:=aa Sk;have Dh:=aa (ae cW UN.o);clear Sk cW))
    have HRX:=aa (show w6.ownsRow w7.heap.size 4 1 v6 (nD ns (j+1)).length (bS (nD ns (j+1))) by
     have h:=rU.o;rw[jr.o,List.append_assoc] at h;rw[HHN.o];have hl:(nD ns j++(bitsOf j 9++bitsOf X 4)).length=(nD ns j++bitsOf j 9).length+4:=by simp[eZ]
     rw[Int.toNat_natCast,hl];exact bC (Nat.le_trans dG.size bA.size) h)
    go_wp2_with fail;go_roundw
    case rel=>exact ⟨j+1,m+1,_,_,by omega,by go_num,rfl,by rw[HMN.o,HM.o],rfl,by go_num,HRX.o,ak dG.o cQ.o⟩
    case measure=>simp[intOf];omega
   ·rw[if_neg hx0] at HHN HMN
    rw[List.append_nil] at HHN;have d1:decide (0<x)=false:=by simp;omega
    clear hx0;go_wp2_with fail;go_roundw
    case rel=>exact ⟨j+1,m,b,_,by omega,by go_num,rfl,by rw[HMN.o,HM.o];rfl,by rw[HHN.o,jr.o],rfl,aaf.o,dG.o⟩
    case measure=>simp[intOf];omega
  obtain rfl:j=272:=by omega
  rw[show ((272:Nat):Int)=272 from rfl];have HP0:=aa (ve [] m 9 9 rfl (.slice none 0 0) wr (iJ _) (by simp) (by decide) (by
   have h1:=A4 ns 272;have e:(2:Nat) ^ 9=512:=by decide
   have:=HM.o;omega))
  have yP:=aa (eI rfl aaf);have HCT:=aa (fun (W:World) (v:Value) (hb:Bw wr W) (h:W.ownsRow wr.heap.size 4 1 v (0+9) (bS ([]++bitsOf m 9)))=>Dz W wr.heap.size 9 v hv ([]++bitsOf m 9) b h (yP.keep (af hb)) (by decide) (by have:=vX.o;omega) hb.size);obtain ⟨pre,wX⟩:=aG (bitsOf m 9++b);have om:=aa (show pre.length≤4009 by rw[← wX,List.length_append,eZ];have:=vX.o;omega);have afz:=aa wX;have HW8:=aa (show jy l=some (pre++gN ns l) by rw[HW7.o,← wX,HM.o,jr.o]);clear wX;have hv':∃p c,hv=.slice p b.length c:=by obtain ⟨p,c,e,_⟩:=yP.o;exact ⟨p,c,e⟩
  obtain ⟨ph,ch,rfl⟩:=hv';go_upto_region 23 with fail;go_wp2_with (first|(go_at_call 210;(with_reducible refine HP0.o.mono ?_);rintro e w8 ⟨v8,rfl,WG,Cb⟩;obtain ⟨v9,w9,Yx,Yy,kp⟩:=HCT.o w8 v8 Cb WG;have Yz:=aa Yx;have tU:=aa Yy;have km:=aa (Cb.trans kp);clear WG Cb Yx Yy kp)|(at_builtin;refine Lib.wpList_append_run _ rfl _ _ _ _ rfl _ _ rfl rfl _ _ Yz.o ?_));have GY:=aa (show w9.ownsRow w7.heap.size 4 1 v9 (pre++gN ns (l.take 0)).length (bS (pre++gN ns (l.take 0))) by
   have h:=tU.o;rw[List.nil_append,afz.o] at h;have hl:pre.length=9+b.length:=by rw[← afz.o,List.length_append,eZ]
   rw[List.take_zero];show w9.ownsRow _ _ _ _ (pre++[]).length (bS (pre++[]));rw[List.append_nil,hl];exact bC dG.size h)
  have alu:=aa (show Bw w7 w9 from dG.trans (km.mono dG.size));clear HP0 HCT Yz tU;go_loopw [11,12,13,14] (fun out i _ _ wz=>Wr4 w7 ns l pre k out i wz) (fun _ i _ _ _=>k-(intOf i).toNat)
  case atStart=>exact ⟨0,_,_,dQ,rfl,rfl,rfl,GY,alu⟩
  case round=>
  obtain ⟨i,mo,ov,hi,rfl,rfl,hmo,hro,hb⟩:=hrel;have HMO:=aa hmo;have OH:=aa hro;have gz:=aa hb;have zr:=aa (show mo≤50000 by
   rw[hmo,List.length_append];have h1:=wW ns (l.take i);have h2:=om.o;rw[List.length_take] at h1;omega)
  clear hmo hro hb GY;by_cases hlt:i<k
  ·have hii:(i:Int)<(k:Int):=by omega
   obtain ⟨⟨x,y,z⟩,hs⟩:∃s,l[i]?=some s:=⟨_,List.getElem?_eq_getElem (by rw[HN.o];exact hlt)⟩
   obtain ⟨gt,ot,rfl,hcell⟩:=HA.o i _ hs;have alv:=aa (show gt<w7.heap.size from World.block_lt_of_cell? _ _ (ae fg (hcell 0 _ rfl)));have r0:=ae gz (ae fg (hcell 0 _ rfl));have r1:=ae gz (ae fg (hcell 1 _ rfl));have r2:=ae gz (ae fg (hcell 2 _ rfl));replace r0:wr.cell? ⟨gt,ot+i*3,none⟩=some (.int .i64 x):=r0;replace r1:wr.cell? ⟨gt,ot+i*3+1,none⟩=some (.int .i64 y):=r1;replace r2:wr.cell? ⟨gt,ot+i*3+2,none⟩=some (.int .i64 z):=r2;have UH:=aa (And.intro r0 (And.intro r1 r2));have tH:=qN (Yw _ (List.mem_of_getElem? hs));have JV:=aa (Li (n:=ns) hs);simp only at tH;obtain ⟨s,UM⟩:=aG (gS ⟨x,y,z⟩);have HSY:=aa UM;have HW6:=aa (fun (W:World) (hb:Bw w7 W)=>Le ns s _ W (HIV.keep (af hb)) (by rw[lz.o];decide));obtain ⟨cb,hcb⟩:=aG ((jZ ns s).getD []);have FQ:=aa hcb;have afA:=aa (show cb.length≤30 by rw[← hcb];exact A5 ns s);have sJ:=aa (show OE ns ⟨x,y,z⟩=cb++if 0<z then bitsOf y.toNat 8 else [] by unfold OE;rw[UM,hcb]);clear hcell hs UM hcb;go_upto_region 27 with fail;go_upto_region 28 with (first|(go_at_call 208;(with_reducible refine (A1 x y z _).mono ?_);rintro e w5 ⟨rfl,aR⟩;rw[HSY.o];have bA:=aa aR;clear aR)|(go_at_call 211;(with_reducible refine (HW6.o _ (ak gz.o bA.o)).mono ?_);rintro e w6 Tc;obtain ⟨v6,b6,rfl,O6,cW⟩:=Tc.bits;rw[FQ.o] at O6;have afB:=aa O6;have cQ:=aV bA cW;clear O6 cW Tc));have hv6:∃p c,v6=.slice p cb.length c:=by obtain ⟨p,c,e,_⟩:=afB.o;exact ⟨p,c,e⟩
   obtain ⟨p6,c6,rfl⟩:=hv6;obtain ⟨v8,w8,YA,WG,Cb⟩:=Dz w6 w7.heap.size mo ov _ (pre++gN ns (l.take i)) cb (aM OH cQ) afB (by have:=zr.o;omega) (by have:=afA.o;omega) (Nat.le_trans gz.size cQ.size);have YB:=aa YA;have K2:=aa WG;have gQ:=aa (show Bw w7 w8 from (ak gz cQ).trans Cb);have HC8:=aa (show w8.cell? ⟨gt,ot+i*3+1,none⟩=some (.int .i64 y)∧w8.cell? ⟨gt,ot+i*3+2,none⟩=some (.int .i64 z) by
    have h0:=alv.o;have SV:Below w7.heap.size w6 w8:=Cb;have k1:=ae cQ UH.2.1;have k2:=ae cQ UH.2.2;exact ⟨(SV.cell (p:=⟨gt,ot+i*3+1,none⟩) h0).trans k1,(SV.cell (p:=⟨gt,ot+i*3+2,none⟩) h0).trans k2⟩)
   clear YA WG Cb r0 r1 r2;obtain ⟨y1,y2⟩:=HC8.o;have HL8:=aa (show (pre++gN ns (l.take i)++cb).length=mo+cb.length by rw[List.length_append,HMO.o]);by_cases hz:0<z
   ·rcases tH with ⟨e,_⟩|⟨_,hy1,apq,hz3,asH⟩
    ·omega
    obtain ⟨Y,rfl⟩:∃Y:Nat,y=Y:=⟨y.toNat,by omega⟩
    rw[if_pos hz,Int.toNat_natCast] at sJ;have d1:decide (0<z)=true:=by simp[hz]
    have WH:=aa (ve (pre++gN ns (l.take i)++cb) Y 8 8 rfl v8 w8 (eI HL8 K2) (by rw[HL8.o];have:=zr.o;have:=afA.o;omega) (by decide) (by
     have e:(2:Nat) ^ 8=256:=(by decide);omega))
    clear hz;go_wp2_with (first|(at_builtin;refine Lib.wpList_append_run _ rfl _ _ _ _ rfl _ _ rfl rfl _ _ YB.o ?_)|(go_at_call 210;(with_reducible refine WH.o.mono ?_);rintro e wa ⟨va,rfl,Z3,J0⟩;have GY:=aa Z3;have yP:=aa (gQ.o.trans (J0.mono gQ.o.size));have gG:=aa J0.size;clear Z3 J0));have xT:=aa (show pre++gN ns (l.take i)++cb++bitsOf Y 8=pre++gN ns (l.take (i+1)) by rw[JV.o,sJ.o];simp);have uR:=aa (show wa.ownsRow w7.heap.size 4 1 va (pre++gN ns (l.take (i+1))).length (bS (pre++gN ns (l.take (i+1)))) by
     have h:=GY.o;rw[xT.o,HL8.o] at h;have:(pre++gN ns (l.take (i+1))).length=mo+cb.length+8:=by rw[← xT.o,List.length_append,HL8.o,eZ]
     rw[this];exact bC gQ.size h)
    go_roundw
    case rel=>exact ⟨i+1,_,_,by omega,by go_num,rfl,rfl,uR.o,yP.o⟩
    case measure=>simp[intOf];omega
   ·have d1:decide (0<z)=false:=by simp;omega
    rw[if_neg hz,List.append_nil] at sJ;have uR:=aa (show w8.ownsRow w7.heap.size 4 1 v8 (pre++gN ns (l.take (i+1))).length (bS (pre++gN ns (l.take (i+1)))) by
     have h:=K2.o;have e:pre++gN ns (l.take (i+1))=pre++gN ns (l.take i)++cb:=by rw[JV.o,sJ.o];simp
     rw[e,HL8.o];exact h)
    clear hz;go_wp2_with (at_builtin;refine Lib.wpList_append_run _ rfl _ _ _ _ rfl _ _ rfl rfl _ _ YB.o ?_);go_roundw
    case rel=>exact ⟨i+1,_,_,by omega,by go_num,rfl,rfl,uR.o,gQ.o⟩
    case measure=>simp[intOf];omega
  ·obtain rfl:i=k:=by omega
   have kQ:=aa (show jy l=some (pre++gN ns (l.take i)) by rw[HW8.o,List.take_of_length_le (by rw[HN.o];exact aT)]);go_wp2_with fail;refine au (cP.yes kQ HMO.symm (bC fg.size OH) (ak fg gz)) ?_;simp[results,Tryz.results182,go_sem]
theorem Lk {l:List jR} {o:List Bool} (h:jy l=some o):o.length≤4009+38*l.length:=by
 unfold jy at h
 split at h
 ·cases h
  rw[List.length_append,List.length_append,eZ];have h1:=wV (iT (kd l)) 272;have h2:=wW (iT (kd l)) l;omega
 ·cases h
theorem DA (s:List UInt8):(eK s 0).length≤s.length:=by have:=(wk s s.length 0 (by omega)).1;omega
theorem O7 {s:List UInt8} (h:s.length=256):((jy (eK s 0)).getD []).length≤1000000:=by
 cases hw:jy (eK s 0) with
 |none=>simp
 |some o=>have:=Lk hw;have:=DA s;simp only[Option.getD_some];omega
theorem A6 (l:List UInt8):(⟨l.toArray⟩:ByteArray).size=l.length:=by simp[ByteArray.size]
def Iw (s:List UInt8):Value:=.tuple #[.string ⟨(E1 s).1.toArray⟩,.bool (E1 s).2.1,.bool (E1 s).2.2]
theorem WI (s:ByteArray) (hs:s.size≤1000000) (w:World):Calls Tryz.prog 154 #[.string s] w fun e w'=>e=.returned (Iw s.data.toList)∧Bw w w':=by
 have hsz:s.data.toList.length=s.size:=by simp
 have b1:(s.size:Int)≤1000000:=by omega
 by_cases h256:s.size=256
 ·have S9:=aa (fun W=>OV s hs W)
  have vX:=aa (O7 (s:=s.data.toList) (by omega));have ML:=aa (show (eK s.data.toList 0).length≤1000000 by have:=DA s.data.toList;omega);have HET:=aa (show GL ((jy (eK s.data.toList 0)).getD [])=OG s.data.toList from rfl);have HEV:=aa (show Iw s.data.toList=if (OG s.data.toList).length<256 then .tuple #[.string ⟨(OG s.data.toList).toArray⟩,.bool true,.bool true] else .tuple #[.string s,.bool false,.bool true] by
   unfold Iw E1;rw[if_pos (show s.data.toList.length=256 by omega)]
   split
   ·rfl
   ·simp only)
  have d1:((s.size:Int) != 256)=false:=by simp;omega
  have d2:(s.size != 256)=false:=by simp[h256]
  obtain ⟨t,ht⟩:=aG (OG s.data.toList);rw[ht] at HET HEV;obtain ⟨tb,Ou⟩:∃tb:ByteArray,(⟨t.toArray⟩:ByteArray)=tb:=⟨_,rfl⟩
  have htn:tb.size=t.length:=by rw[← Ou,A6]
  rw[Ou] at HEV;have KR:=aa Ou;clear hsz hs h256 ht Ou;go_enter Tryz.func154,Tryz.ntmps154;go_upto_region 4 with (first|(go_at_call 183;(with_reducible refine (S9.o _).mono ?_);rintro e w5 ⟨v5,rfl,yu,aR⟩;have HV5:=aa (kz E2 rfl yu);have bA:=aa aR;clear yu aR)|(go_at_call 182;(with_reducible refine (Lj _ _ _ HV5.o ML.o).mono ?_);rintro e w6 Tc;obtain ⟨v6,b6,rfl,O6,cW⟩:=Tc.bits;have HV6:=aa O6;have cQ:=aV bA cW;clear O6 cW Tc));by_cases hlt:t.length<256
  ·have HE:=aa (show Iw s.data.toList=.tuple #[.string tb,.bool true,.bool true] by rw[HEV.o,if_pos hlt])
   have d3:decide ((tb.size:Int)<256)=true:=by simp;omega
   have d4:decide (tb.size<256)=true:=by simp;omega
   clear hlt htn;go_wp2_with (go_at_call 184;(with_reducible refine (Hd _ _ _ HV6.o vX.o).mono ?_);rintro e w7 ⟨rfl,dO⟩;rw[HET.o,KR.o];have fg:=aV cQ dO;clear dO);refine au ⟨by rw[HE.o],fg⟩ ?_;simp[results,Tryz.results154,go_sem]
  ·have HE:=aa (show Iw s.data.toList=.tuple #[.string s,.bool false,.bool true] by rw[HEV.o,if_neg hlt])
   have d3:decide ((tb.size:Int)<256)=false:=by simp;omega
   have d4:decide (tb.size<256)=false:=by simp;omega
   clear hlt htn;go_wp2_with (go_at_call 184;(with_reducible refine (Hd _ _ _ HV6.o vX.o).mono ?_);rintro e w7 ⟨rfl,dO⟩;rw[HET.o,KR.o];have fg:=aV cQ dO;clear dO);refine au ⟨by rw[HE.o],fg⟩ ?_;simp[results,Tryz.results154,go_sem]
 ·have HE:=aa (show Iw s.data.toList=.tuple #[.string ⟨#[]⟩,.bool false,.bool false] by
   unfold Iw E1;rw[if_neg (show ¬s.data.toList.length=256 by omega)])
  have d1:((s.size:Int) != 256)=true:=by simp;omega
  have d2:(s.size != 256)=true:=by simp[h256]
  clear hsz hs h256;go_enter Tryz.func154,Tryz.ntmps154;go_wp2_with fail;refine au ⟨by rw[HE.o],aH⟩ ?_;simp[results,Tryz.results154,go_sem]
end Go.Proofs.YtbigkioechkngaaGreat
