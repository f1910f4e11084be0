/- The proof, part 20. -/
import Derived.Test.YtbigkioechkngaaGreatQ18
import Derived.Test.YtbigkioechkngaaGreatQ14
set_option maxRecDepth 100000
set_option maxHeartbeats 8000000
namespace Go.Proofs.YtbigkioechkngaaGreat
open Go.RowKit
theorem S5 (f:List Int) (v1:Value) (w:World) (h1:fD w v1 f) (hl:f.length≤300) (hf:∀x∈f,0≤x∧x≤1000):Calls Tryz.prog 224 #[v1] w fun e w'=>e=.returned (.bool true)∧Bw w w':=by
 obtain ⟨p,c,rfl,hc1,hc2,ha⟩:=h1;have HA:=aa ha;obtain ⟨N,hN⟩:=aG f.length;rw[hN] at hc1 hl;rw[hN];have HN:=aa hN;have HF:=aa hf;have b1:(N:Int)≤300:=by omega
 clear ha hN hl hc1 hc2 hf;go_enter Tryz.func224,Tryz.ntmps224;go_wp2_with fail;go_loopw [3] (fun i wr=>∃k:Nat,k≤N∧i=.int .i64 k∧Bw w wr) (fun i _=>N-(intOf i).toNat)
 case atStart=>exact ⟨0,dQ,rfl,aH⟩
 case round=>
  obtain ⟨k,hk,rfl,hb⟩:=hrel;have HB:=aa hb;clear hb;by_cases hlt:k<N
  ·have fO:(k:Int)<(N:Int):=by omega
   obtain ⟨x,hx⟩:=fy (l:=f) (k:=k) (by rw[HN.o];exact hlt);obtain ⟨_,g,o,rfl,r0⟩:=HA.o k x hx;replace r0:=ae HB r0;obtain ⟨x0,x1⟩:=HF.o x (List.mem_of_getElem? hx);clear hx;go_wp2_with fail;go_roundw
   case rel=>exact ⟨k+1,by omega,by go_num,HB.o⟩
   case measure=>simp[intOf];omega
  ·obtain rfl:k=N:=by omega
   have hd:decide ((k:Int)≤300)=true:=by simp;omega
   go_wp2_with fail;go_ret;exact ⟨aO (by simp),HB⟩
theorem OO (f:List Int) (v1:Value) (w:World) (h1:fD w v1 f) (hl:f.length≤300) (hf:∀x∈f,x≤15):Calls Tryz.prog 226 #[v1] w fun e w'=>e=.returned (.bool false)∧Bw w w':=by
 obtain ⟨p,c,rfl,hc1,hc2,ha⟩:=h1;have HA:=aa ha;obtain ⟨N,hN⟩:=aG f.length;rw[hN] at hc1 hl;rw[hN];have HN:=aa hN;have HF:=aa hf;have b1:(N:Int)≤300:=by omega
 clear ha hN hl hc1 hc2 hf;go_enter Tryz.func226,Tryz.ntmps226;go_wp2_with fail;go_loopw [3] (fun i wr=>∃k:Nat,k≤N∧i=.int .i64 k∧Bw w wr) (fun i _=>N-(intOf i).toNat)
 case atStart=>exact ⟨0,dQ,rfl,aH⟩
 case round=>
  obtain ⟨k,hk,rfl,hb⟩:=hrel;have HB:=aa hb;clear hb;by_cases hlt:k<N
  ·have fO:(k:Int)<(N:Int):=by omega
   obtain ⟨x,hx⟩:=fy (l:=f) (k:=k) (by rw[HN.o];exact hlt);obtain ⟨_,g,o,rfl,r0⟩:=HA.o k x hx;replace r0:=ae HB r0;have x1:=HF.o x (List.mem_of_getElem? hx);clear hx;go_wp2_with fail;go_roundw
   case rel=>exact ⟨k+1,by omega,by go_num,HB.o⟩
   case measure=>simp[intOf];omega
  ·obtain rfl:k=N:=by omega
   go_wp2_with fail;go_ret;exact ⟨rfl,HB⟩
theorem wT {l:List Int} (h:∀x∈l,0≤x∧x≤1000):∀x∈l,aP x:=fun x hx=>by have:=h x hx;unfold aP;omega
theorem OP (f:List Int) (v1:Value) (w:World) (h1:fD w v1 f) (hl:f.length≤300) (hf:∀x∈f,0≤x) (hs:f.sum≤1000):Calls Tryz.prog 209 #[v1] w fun e w'=>∃v,e=.returned v∧w'.ownsRow w.heap.size 3 1 v f.length (bB (iT f))∧Bw w w':=by
 have hf2:∀x∈f,0≤x∧x≤1000:=fun x hx=>⟨hf x hx,pA hf hs x hx⟩
 have HM:=aa (S5 f v1 w h1 hl hf2);have HO:=aa (fun (W:World) (hb:Bw w W)=>SY f v1 W (h1.keep (af hb)) hl hf hs);have rR:=aa (xX hf hs);have HD:=aa (fun (W:World) (v:Value) (h:fD W v (iT f))=>OO (iT f) v W h (by rw[wF];exact hl) (fun x hx=>(rR x hx).2));clear hf2 h1 hl hf hs;go_enter Tryz.func209,Tryz.ntmps209;go_upto_region 3 with (go_at_call 224;(with_reducible refine HM.o.mono ?_);rintro e w1 ⟨rfl,hb1⟩;have aZ:=aa hb1;clear hb1);go_wp2_with (go_at_call 225;(with_reducible refine (HO.o _ aZ.o).mono ?_);rintro e w2 ⟨v2,rfl,hr2,hb2⟩;have js:=aa hr2;have bU:=aV aZ hb2;have NR:=aa hb2.size;clear hr2 hb2);have HI:=aa (qB (wT (fun x hx=>by have:=rR.o x hx;omega)) (by rw[wF];exact js));have uz:=aa (bC aZ.size js);go_loopw [0,3,4,5] (fun _ v _ _ wr=>v2=v∧Bw w2 wr) (fun _ _ _ _ _=>0)
 case atStart=>exact ⟨rfl,aH⟩
 case round=>obtain ⟨rfl,hb⟩:=hrel;have HB:=aa hb;have JZ:=aa (HI.keep (af hb));clear hb;go_wp2_with (go_at_call 226;(with_reducible refine (HD.o _ _ JZ.o).mono ?_);rintro e w3 ⟨rfl,hb3⟩;have dG:=aV HB hb3;clear hb3);go_ret;exact ⟨_,rfl,aM uz dG,ak bU dG⟩
theorem K4 {l:List Int} {k:Nat} {x:Int} (h:l[k]?=some x):iD (l.take (k+1))=iD (l.take k)+jY x:=by unfold iD;rw[List.take_add_one,h,Option.toList,List.map_append,List.sum_append];simp
theorem yt (x:Int):0≤jY x∧jY x≤16384:=by
 unfold jY
 split
 ·rename_i h
  have h1:(2:Nat) ^ (15-x).toNat≤2 ^ 14:=Nat.pow_le_pow_right (by decide) (by omega);have h2:(2:Nat) ^ 14=16384:=by decide
  obtain ⟨q,hq⟩:=aG ((2:Nat) ^ (15-x).toNat);rw[hq] at h1 ⊢;omega
 ·omega
theorem Dy:∀l:List Int,0≤iD l∧iD l≤16384*l.length
 |[]=>by simp[iD]
 |x::l=>by have h1:=Dy l;have h2:=yt x;unfold iD at *;rw[List.map_cons,List.sum_cons,List.length_cons];omega
theorem K5 (l:List Int) (v1:Value) (w:World) (h1:fD w v1 l) (hl:l.length≤300):Calls Tryz.prog 223 #[v1] w fun e w'=>e=.returned (.int .i64 (iD l))∧Bw w w':=by
 obtain ⟨p,c,rfl,hc1,hc2,ha⟩:=h1;have HA:=aa ha;obtain ⟨N,hN⟩:=aG l.length;rw[hN] at hc1 hl;rw[hN];have HN:=aa hN;have b1:(N:Int)≤300:=by omega
 clear ha hN hl hc1 hc2;go_enter Tryz.func223,Tryz.ntmps223;go_wp2_with fail;go_loopw [3,4] (fun n i wr=>∃(k:Nat) (y:Int),k≤N∧i=.int .i64 k∧n=.int .i64 y∧Hid (y=iD (l.take k))∧Bw w wr) (fun _ i _=>N-(intOf i).toNat)
 case atStart=>exact ⟨0,0,dQ,rfl,rfl,aa (by simp[iD]),aH⟩
 case round=>
  obtain ⟨k,y,hk,rfl,rfl,hy,hb⟩:=hrel;have HB:=aa hb;clear hb;by_cases hlt:k<N
  ·have fO:(k:Int)<(N:Int):=by omega
   obtain ⟨x,hx⟩:=fy (l:=l) (k:=k) (by rw[HN.o];exact hlt);obtain ⟨SZ,g,o,rfl,r0⟩:=HA.o k x hx;replace r0:=ae HB r0;have fS:=aa (K4 hx);rw[← hy.out] at fS;have iO:=Dy (l.take k);rw[← hy.out,List.length_take] at iO;clear hx;by_cases pV:0<x∧x<16
   ·obtain ⟨h3,h4⟩:=pV
    obtain ⟨q,hq⟩:=aG ((15-x).toNat);have asv:(15:Int)-x=(q:Int):=by omega
    have afl:q≤30:=(by omega);have Zl:=aa (fun W=>wH q afl W);have XM:jY x=((2 ^ q:Nat):Int):=by unfold jY;rw[if_pos ⟨h3,h4⟩,hq]
    obtain ⟨z,hz⟩:=aG (2 ^ q);rw[hz] at XM Zl;have hzb:=yt x;rw[XM] at hzb fS;have hyz:IntKind.i64.wrap (y+(z:Int))=y+(z:Int):=by rw[IntKind.wrap_i64];omega
    have afm:wrap64 (y+(z:Int))=y+(z:Int):=by unfold wrap64;omega
    have HW:=aa afm;have d1:decide (0<x)=true:=by simp[h3]
    have d2:decide (x<16)=true:=(by simp[h4]);clear iO hzb hz XM hq hyz afm afl;go_wp2_with (go_at_call 177;(with_reducible refine (Zl.o _).mono ?_);rintro e w' ⟨rfl,rfl⟩);go_roundw
    case rel=>exact ⟨k+1,y+z,by omega,by go_num,by rw[HW.o],aa fS.o.symm,HB.o⟩
    case measure=>simp[intOf];omega
   ·have XM:jY x=0:=by unfold jY;rw[if_neg pV]
    rw[XM,Int.add_zero] at fS;clear iO XM;have hc:¬0<x∨(0<x∧¬x<16):=by omega
    clear pV;rcases hc with c1|⟨c1,c2⟩
    ·have d1:decide (0<x)=false:=by simp;omega
     go_wp2_with fail;go_roundw
     case rel=>exact ⟨k+1,y,by omega,by go_num,rfl,aa fS.o.symm,HB.o⟩
     case measure=>simp[intOf];omega
    ·have d1:decide (0<x)=true:=by simp;omega
     have d2:decide (x<16)=false:=by simp;omega
     go_wp2_with fail;go_roundw
     case rel=>exact ⟨k+1,y,by omega,by go_num,rfl,aa fS.o.symm,HB.o⟩
     case measure=>simp[intOf];omega
  ·obtain rfl:k=N:=by omega
   have HF:=aa (show y=iD l by have:=hy.out;rw[List.take_of_length_le (by rw[HN.o];exact aT)] at this;exact this);go_wp2_with fail;go_ret;exact ⟨kP HF,HB⟩
theorem aaP (W:World) (n:Nat) (hn:n≤1000):∃w1,(Instr.makeSlice 24 (.int .i64 0) (.int .i64 n)).run Tryz.prog W=.ok (.slice (some ⟨W.heap.size,0,none⟩) 0 n) w1∧w1.ownsRow W.heap.size 4 1 (.slice (some ⟨W.heap.size,0,none⟩) 0 n) 0 (bS [])∧Bw W w1:=by obtain ⟨i0,hi,hz0,hz1,hz2⟩:=info_parts qK;obtain ⟨w1,jP,hown,hg⟩:=run_make_own (P:=Tryz.prog) W W.heap.size 24 4 i0 (.bool false) 1 Tryz.underlying24 hi hz0 hz1 .i64 .i64 n (by rw[hz2];omega) (by unfold maxLen;omega) aT;exact ⟨w1,jP,hown,aH.grown hg aT (fun k e=>by cases e)⟩
theorem Pq (x:List (List aj)) (v1:Value) (w:World) (h1:dI w v1 x) (hl:x.length≤1000):Calls Tryz.prog 118 #[v1,.func (.func 119) #[] #[]] w fun e w'=>∃v,e=.returned v∧w'.ownsRow w.heap.size 4 1 v (x.map dD).length (bS (x.map dD))∧Bw w w':=by
 obtain ⟨p,cp,rfl,a1,a2,ha⟩:=h1;have HA:=aa ha;obtain ⟨N,hN⟩:=aG x.length;rw[hN] at a1 hl;rw[hN];have hlc:(N:Int)≤9223372036854775807:=by omega
 have HN:=aa hN;have rP:=aa hl;obtain ⟨w6,jP,hrow,cW⟩:=aaP w N hl;have Ba:=aa hrow;have cQ:=aa cW;clear ha hN a1 a2 hrow cW hl;go_enter Tryz.func118,Tryz.ntmps118;go_wp2_with fail;clear jP;go_loopw [13,5,7] (fun i o _ wr=>∃(k:Nat) (po:Option Addr) (co:Nat),k≤N∧i=.int .i64 k∧o=.slice po k co∧wr.ownsRow w.heap.size 4 1 o k (bS ((x.take k).map dD))∧Bw w wr) (fun i _ _ _=>N-(intOf i).toNat)
 case atStart=>exact ⟨0,_,_,dQ,rfl,rfl,Ba,cQ⟩
 case round=>
  obtain ⟨k,po,co,hk,rfl,rfl,hrow,hb⟩:=hrel;have bY:=aa hrow;have HB:=aa hb;clear hrow hb;by_cases hlt:k<N
  case neg=>
   obtain rfl:k=N:=by omega
   have kQ:=aa (show x.take k=x from List.take_of_length_le (by rw[HN.o];exact aT));go_wp2_with fail;go_ret;have h:=bY.o;rw[kQ.o] at h;exact ⟨_,rfl,by rw[List.length_map,HN.o];exact h,HB⟩
  case pos=>
   have fO:(k:Int)<(N:Int):=(by omega);obtain ⟨s,hs⟩:=fy (l:=x) (k:=k) (by rw[HN.o];omega);obtain ⟨g,o,u1,rfl,x1,x2⟩:=HA.o k _ hs;obtain ⟨su,rfl⟩:=x2.sl;unfold ik at *;have r0:=ae HB x1;have dS:=aa (oz s _ wr (x2.keep (af HB)));have fS:=aa (show (x.take (k+1)).map dD=(x.take k).map dD++[dD s] by rw[List.take_add_one,hs,Option.toList_some,List.map_append];rfl);obtain ⟨bq,yV⟩:∃b,dD s=b:=⟨_,rfl⟩
   rw[yV] at dS fS;clear hs x1 x2 yV;go_wp2_with (first|(go_at_call 119;(with_reducible refine dS.o.mono ?_);(rintro e w2 ⟨rfl,hb⟩);(obtain ⟨g2,Tk,w3,hrun,cj⟩:=qL w2 w.heap.size k _ ((x.take k).map dD) bq (aM bY.o hb) (by have:=rP.o;omega) (Nat.le_trans HB.o.size hb.size));(have dM:=aa hrun);(have yY:=aa cj.row);(have dG:=aa (show Bw w w3 from (ak HB.o hb).trans cj.below));(clear hb hrun cj))|(at_builtin;refine Lib.wpList_append_run _ rfl _ _ _ _ rfl _ _ rfl rfl _ _ dM.o ?_));go_roundw
   case rel=>exact ⟨k+1,_,_,by omega,by go_num,rfl,by rw[fS.o,← qM];exact yY.o,dG.o⟩
   case measure=>simp[intOf];omega
theorem LH (l:List Bool) (v1:Value) (w:World) (h1:dA w v1 l):Calls Tryz.prog 156 #[v1,.bool false] w fun e w'=>(∃i,e=.returned (.int .i64 i)∧(decide (0≤i)=!l.all id))∧Bw w w':=by
 obtain ⟨p,cp,rfl,a1,a2⟩:=h1.slice;have HA:=aa h1.cells;obtain ⟨N,hN⟩:=aG l.length;rw[hN] at a1;rw[hN];have hlc:=fK (n:=N) a2;have HN:=aa hN;clear h1 hN a1 a2;go_enter Tryz.func156,Tryz.ntmps156;go_wp2_with fail;go_loopw [8,5] (fun i _ wr=>∃k:Nat,k≤N∧i=.int .i64 k∧(∀(j:Nat) b,j<k→l[j]?=some b→b=true)∧Bw w wr) (fun i _ _=>N-(intOf i).toNat)
 case atStart=>exact ⟨0,dQ,rfl,fun j _ hj=>by omega,aH⟩
 case round=>
  obtain ⟨k,hk,rfl,hall,hb⟩:=hrel;have ez:=aa hall;have HB:=aa hb;clear hall hb;by_cases hlt:k<N
  case neg=>
   obtain rfl:k=N:=by omega
   have HF:=aa (show l.all id=true from List.all_eq_true.2 fun b hb=>by
    obtain ⟨j,hj⟩:=List.getElem?_of_mem hb;exact ez j b (by have:=(List.getElem?_eq_some_iff.1 hj).1;rw[HN.o] at this;exact this) hj)
   go_wp2_with fail;go_ret;exact ⟨⟨-1,rfl,by rw[HF.o];rfl⟩,HB⟩
  case pos=>
   have fO:(k:Int)<(N:Int):=(by omega);obtain ⟨b,hs⟩:∃s,l[k]?=some s:=⟨_,List.getElem?_eq_getElem (by rw[HN.o];omega)⟩
   obtain ⟨g,o,rfl,x1⟩:=HA.o k _ hs;have r0:=ae HB x1;have HS:=aa hs;clear hs x1;cases b with
   |false=>have HF:=aa (show l.all id=false by rw[← Bool.not_eq_true,List.all_eq_true];intro h;have:=h false (List.mem_of_getElem? HS);cases this);go_wp2_with fail;go_ret;exact ⟨⟨k,rfl,by rw[HF.o];exact decide_eq_true (by omega)⟩,HB⟩
   |true=>
    go_wp2_with fail;go_roundw
    case rel=>
     refine ⟨k+1,by omega,by go_num,fun j b hj hb=>?_,HB.o⟩;by_cases e:j=k
     ·subst e;rw[HS.o] at hb;cases hb;rfl
     ·exact ez j b (by omega) hb
    case measure=>simp[intOf];omega
theorem Cv (l:List Bool) (v1:Value) (w:World) (h1:dA w v1 l):Calls Tryz.prog 117 #[v1,.bool false] w fun e w'=>e=.returned (.bool (!l.all id))∧Bw w w':=by have HI:=aa (LH l v1 w h1);obtain ⟨p,cp,rfl,_,_⟩:=h1.slice;clear h1;go_enter Tryz.func117,Tryz.ntmps117;go_wp2_with (go_at_call 156;(with_reducible refine HI.o.mono ?_);(rintro e w2 ⟨⟨i,rfl,hi⟩,hb⟩);have HII:=aa hi;have HB:=aa hb;clear hi hb);go_ret;exact ⟨aO HII,HB⟩
theorem tY (x:List (List aj)) (v1:Value) (w:World) (h1:dI w v1 x):Calls Tryz.prog 63 #[v1] w fun e w'=>e=.returned (.bool (cF x))∧Bw w w':=by
 have TA:=aa (fun (hl:x.length≤1000)=>Pq x v1 w h1 hl);obtain ⟨p,cp,rfl,a1,a2,_⟩:=h1;obtain ⟨N,hN⟩:=aG x.length;have HF:=aa (show cF x=(x.all dD&&decide (1≤N∧N≤1000)) by unfold cF;rw[hN]);rw[hN] at a1 TA;rw[hN];have hlc:=fK (n:=N) a2;clear hN a1 a2;by_cases pV:1≤N∧N≤1000
 case neg=>
  have HE:=aa (show cF x=false by rw[HF.o,decide_eq_false pV,Bool.and_false]);have hc:(decide ((N:Int)<1)=true∧N=0)∨(decide ((N:Int)<1)=false∧decide (1000<(N:Int))=true∧decide (1000<N)=true):=by
   by_cases h0:N=0
   ·left;exact ⟨decide_eq_true (by omega),h0⟩
   ·right;exact ⟨decide_eq_false (by omega),decide_eq_true (by omega),decide_eq_true (by omega)⟩
  clear pV;rcases hc with ⟨h1,rfl⟩|⟨h1,h2,h3⟩
  ·go_enter Tryz.func63,Tryz.ntmps63
   go_wp2_with fail;go_ret;exact ⟨aO HE.o.symm,aH⟩
  ·have hN0:(N==0)=false:=by simp at h1 ⊢;omega
   have h4:decide (N<1)=false:=by simp at h1 ⊢;omega
   go_enter Tryz.func63,Tryz.ntmps63;go_wp2_with fail;go_ret;exact ⟨aO HE.symm,aH⟩
 case pos=>
  have HE:=aa (show cF x=(x.map dD).all id by rw[HF.o,decide_eq_true pV,Bool.and_true,List.all_map];rfl);have alS:=aa (TA.o pV.2);have h1:decide ((N:Int)<1)=false:=decide_eq_false (by omega);have h2:decide (1000<(N:Int))=false:=decide_eq_false (by omega);have h3:decide (1000<N)=false:=decide_eq_false (by omega);have hN0:(N==0)=false:=by simp;omega
  have h4:decide (N<1)=false:=decide_eq_false (by omega);clear pV TA;go_enter Tryz.func63,Tryz.ntmps63;go_wp2_with (first|(go_at_call 118;(with_reducible refine alS.o.mono ?_);(rintro e w2 ⟨v2,rfl,hr,hb⟩);have Pr:=aa (eI rfl hr);have HB:=aa hb;clear hb hr)|(go_at_call 117;(with_reducible refine (Cv _ _ _ Pr.o).mono ?_);(rintro e w3 ⟨rfl,hb⟩);have dG:=aV HB hb;clear hb));go_ret;exact ⟨aO (by rw[HE.o];simp),dG⟩
def lT (a b:List ByteArray):Bool:=decide (a=b)
theorem LZ (x y:List ByteArray) (v1 v2:Value) (w:World) (h1:dx w v1 1 lg x) (h2:dx w v2 1 lg y):Calls Tryz.prog 99 #[v1,v2] w fun e w'=>e=.returned (.bool (lT x y))∧Bw w w':=by
 obtain ⟨p,cp,rfl,a1,a2⟩:=h1.slice;obtain ⟨q,cq,rfl,b1,b2⟩:=h2.slice;have HA:=aa h1.cells;have jr:=aa h2.cells;clear h1 h2;obtain ⟨N,hN⟩:=aG x.length;obtain ⟨M,hM⟩:=aG y.length;rw[hN] at a1;rw[hM] at b1;rw[hN,hM];have hlc:=fK (n:=N) a2;have hld:=fK (n:=M) b2;have HN:=aa hN;have HM:=aa hM;clear hN hM a1 a2 b1 b2;by_cases hNM:N=M
 case neg=>
  have hne:((N:Int) != (M:Int))=true:=by rw[bne_iff_ne];omega
  have HF:=aa (show lT x y=false by
   unfold lT;rw[decide_eq_false_iff_not];intro h;exact hNM (by rw[← HN.o,← HM.o,h]))
  clear hNM;go_enter Tryz.func99,Tryz.ntmps99;go_wp2_with fail;go_ret;exact ⟨aO HF.symm,aH⟩
 subst hNM;have hne:((N:Int) != (N:Int))=false:=by simp
 go_enter Tryz.func99,Tryz.ntmps99;go_wp2_with fail;go_loopw [5] (fun i wr=>∃k:Nat,k≤N∧i=.int .i64 k∧(∀(j:Nat),j<k→x[j]?=y[j]?)∧Bw w wr) (fun i _=>N-(intOf i).toNat)
 case atStart=>exact ⟨0,dQ,rfl,fun j hj=>by omega,aH⟩
 case round=>
  obtain ⟨k,hk,rfl,hall,hb⟩:=hrel;have ez:=aa hall;have HB:=aa hb;clear hall hb;by_cases hlt:k<N
  case neg=>
   obtain rfl:k=N:=by omega
   have HF:=aa (show lT x y=true by
    unfold lT;rw[decide_eq_true_eq];apply List.ext_getElem?;intro j;by_cases hj:j<k
    ·exact ez j hj
    ·rw[List.getElem?_eq_none (by rw[HN.o];omega),List.getElem?_eq_none (by rw[HM.o];omega)])
   go_wp2_with fail;go_ret;exact ⟨aO HF.symm,HB⟩
  have fO:(k:Int)<(N:Int):=by omega
  obtain ⟨s,hs⟩:=fy (l:=x) (k:=k) (by rw[HN.o];omega);obtain ⟨t,ht⟩:=fy (l:=y) (k:=k) (by rw[HM.o];omega);obtain ⟨g,o,rfl,x1⟩:=HA.o k s hs;obtain ⟨g',o',rfl,y1⟩:=jr.o k t ht;replace x1:=x1 0 _ rfl;replace y1:=y1 0 _ rfl;rw[Nat.mul_one,Nat.add_zero] at x1 y1;have r1:=ae HB x1;have r2:=ae HB y1;have HS:=aa hs;have HT:=aa ht;clear hs ht x1 y1;by_cases hst:s=t
  ·subst hst
   have Ac:=aa (show ∀(j:Nat),j<k+1→x[j]?=y[j]? from fun j hj=>by
    by_cases e:j=k
    ·rw[e,HS.o,HT.o]
    ·exact ez j (by omega))
   have Xn:(s.toList==s.toList)=true:=(by simp);go_wp2_with fail;go_quiet (fail);go_wp2_with fail;go_roundw
   case rel=>exact ⟨k+1,by omega,by go_num,Ac.o,ay HB.o _⟩
   case measure=>simp[intOf];omega
  ·have HF:=aa (show lT x y=false by
    unfold lT;rw[decide_eq_false_iff_not];intro h;have:=HS.o;rw[h,HT.o] at this;injection this with this;exact hst this.symm)
   have Xn:(s.toList==t.toList)=false:=by rw[beq_eq_false_iff_ne];intro e;rw[ByteArray.toList_eq,ByteArray.toList_eq] at e;exact hst (Go.WideShapes.bytes_inj e)
   clear hst;go_wp2_with fail;go_quiet (fail);go_wp2_with fail;go_ret;exact ⟨aO HF.symm,ay HB _⟩
def pG (a b:List Bool):Bool:=decide (a=b)
theorem PZ (x y:List Bool) (v1 v2:Value) (w:World) (h1:dA w v1 x) (h2:dA w v2 y):Calls Tryz.prog 100 #[v1,v2] w fun e w'=>e=.returned (.bool (pG x y))∧Bw w w':=by
 obtain ⟨p,cp,rfl,a1,a2⟩:=h1.slice;obtain ⟨q,cq,rfl,b1,b2⟩:=h2.slice;have HA:=aa h1.cells;have jr:=aa h2.cells;clear h1 h2;obtain ⟨N,hN⟩:=aG x.length;obtain ⟨M,hM⟩:=aG y.length;rw[hN] at a1;rw[hM] at b1;rw[hN,hM];have hlc:=fK (n:=N) a2;have hld:=fK (n:=M) b2;have HN:=aa hN;have HM:=aa hM;clear hN hM a1 a2 b1 b2;by_cases hNM:N=M
 case neg=>
  have hne:((N:Int) != (M:Int))=true:=by rw[bne_iff_ne];omega
  have HF:=aa (show pG x y=false by
   unfold pG;rw[decide_eq_false_iff_not];intro h;exact hNM (by rw[← HN.o,← HM.o,h]))
  clear hNM;go_enter Tryz.func100,Tryz.ntmps100;go_wp2_with fail;go_ret;exact ⟨aO HF.symm,aH⟩
 subst hNM;have hne:((N:Int) != (N:Int))=false:=by simp
 go_enter Tryz.func100,Tryz.ntmps100;go_wp2_with fail;go_loopw [5] (fun i wr=>∃k:Nat,k≤N∧i=.int .i64 k∧(∀(j:Nat),j<k→x[j]?=y[j]?)∧Bw w wr) (fun i _=>N-(intOf i).toNat)
 case atStart=>exact ⟨0,dQ,rfl,fun j hj=>by omega,aH⟩
 case round=>
  obtain ⟨k,hk,rfl,hall,hb⟩:=hrel;have ez:=aa hall;have HB:=aa hb;clear hall hb;by_cases hlt:k<N
  case neg=>
   obtain rfl:k=N:=by omega
   have HF:=aa (show pG x y=true by
    unfold pG;rw[decide_eq_true_eq];apply List.ext_getElem?;intro j;by_cases hj:j<k
    ·exact ez j hj
    ·rw[List.getElem?_eq_none (by rw[HN.o];omega),List.getElem?_eq_none (by rw[HM.o];omega)])
   go_wp2_with fail;go_ret;exact ⟨aO HF.symm,HB⟩
  have fO:(k:Int)<(N:Int):=by omega
  obtain ⟨s,hs⟩:=fy (l:=x) (k:=k) (by rw[HN.o];omega);obtain ⟨t,ht⟩:=fy (l:=y) (k:=k) (by rw[HM.o];omega);obtain ⟨g,o,rfl,x1⟩:=HA.o k s hs;obtain ⟨g',o',rfl,y1⟩:=jr.o k t ht;have r1:=ae HB x1;have r2:=ae HB y1;have HS:=aa hs;have HT:=aa ht;clear hs ht x1 y1;by_cases hst:s=t
  ·subst hst
   have Ac:=aa (show ∀(j:Nat),j<k+1→x[j]?=y[j]? from fun j hj=>by
    by_cases e:j=k
    ·rw[e,HS.o,HT.o]
    ·exact ez j (by omega))
   have Xn:(s==s)=true:=(by simp);have agI:(s != s)=false:=by simp
   go_wp2_with fail;go_quiet (fail);go_wp2_with fail;go_roundw
   case rel=>exact ⟨k+1,by omega,by go_num,Ac.o,ay HB.o _⟩
   case measure=>simp[intOf];omega
  ·have HF:=aa (show pG x y=false by
    unfold pG;rw[decide_eq_false_iff_not];intro h;have:=HS.o;rw[h,HT.o] at this;injection this with this;exact hst this.symm)
   have Xn:(s==t)=false:=by rw[beq_eq_false_iff_ne];exact hst
   have agI:(s != t)=true:=by rw[bne_iff_ne];exact hst
   clear hst;go_wp2_with fail;go_quiet (fail);go_wp2_with fail;go_ret;exact ⟨aO HF.symm,ay HB _⟩
theorem D7:(Tryz.prog.info? 5).map (fun i=>(i.zero,i.size,i.bytes))=some (some (.int .u8 0),1,1):=by kernel_rfl
theorem D8 (w:World):Calls Tryz.prog 105 #[] w fun e w'=>e=.returned (.string iY)∧Bw w w':=by
 obtain ⟨i0,hi,hz0,hz1,hz2⟩:=info_parts D7;obtain ⟨w1,jP,hown,hg⟩:=run_make_full (P:=Tryz.prog) w w.heap.size 112 5 i0 (.int .u8 0) 1 Tryz.underlying112 hi hz0 hz1 .i64 .i64 32 (by rw[hz2];omega) (by unfold maxLen;omega) aT;have e:(Value.int .u8 0).cells = #[Value.int .u8 0]:=rfl;rw[e,toList_madeCells_one,Nat.mul_one] at hown;have adE:(Instr.makeSlice 112 (.int .i64 32) (.int .i64 32)).run Tryz.prog w=.ok (.slice (some ⟨w.heap.size,0,none⟩) 32 32) w1:=jP;have HB:=aa (show Bw w w1 from aH.grown hg aT (fun k e=>by cases e));have htx:(convert 112 9 (.slice (some ⟨w.heap.size,0,none⟩) 32 32)).run Tryz.prog w1=.ok (.string iY) w1:=by have h:=Eo (P:=Tryz.prog) (w:=w1) (B:=w.heap.size) (g:=w.heap.size) (cap:=32) (l:=List.replicate 32 0) Tryz.underlying112 Tryz.underlying5 Tryz.underlying9 hown;exact h
 clear jP hown hg hi hz0 hz1 hz2;go_enter Tryz.func105,Tryz.ntmps105;go_wp2_with fail;go_ret;exact ⟨rfl,HB⟩
theorem BG (W:World) (B n:Nat) (v:Value) (l:List ByteArray) (x:ByteArray) (hown:W.ownsRow B 9 1 v n (bn lg l)) (hn:n≤100000000) (hB:B≤W.heap.size) :
 ∃g cap w2,(Builtin.append_ #[22,22] 22 #[v,.slice (some ⟨W.heap.size,0,none⟩) 1 1]).run Tryz.prog (W.alloc (.cells #[.string x] 9))=.ok (.slice (some ⟨g,0,none⟩) (n+1) cap) w2∧ky W w2 B n 9 1 v (bn lg l) [.string x] g cap:=by
 obtain ⟨i0,iP,hz0,hz1,hz2⟩:=info_parts Hi;exact eY 22 9 i0 _ 1 16 Tryz.underlying22 iP hz0 hz1 hz2 rfl (by decide) (by decide) W B n v (bn lg l) [.string x] hown rfl (uN x) hn hB
theorem TW {n:Int} (h:n<1∨5000<n):Kt n=(iZ,1):=by unfold Kt;rw[if_pos h]
theorem Xo {n:Nat} (h1:1≤n) (h2:n≤5000):Kt n=(⟨List.replicate n iY,[],-1,[],false⟩,0):=by unfold Kt;rw[if_neg (by omega)];rfl
theorem vB {W W':World} {row:Option Nat} (hg:W.grownBy W' row) {b:Nat} (j:Nat) (hlt:b<W.heap.size) (hne:some b≠row):W'.frozen? ⟨b,j,none⟩=W.frozen? ⟨b,j,none⟩:=by have hh:W'.heap[b]?=W.heap[b]?:=hg.block _ hlt hne;unfold World.frozen?;simp only;rw[hh]
def L0 (w:World) (N:Nat) (i:Value) (wr:World):Prop:=
 ∃(k:Nat) (p:Option Addr) (c:Nat),k≤N∧i=.int .i64 k∧eM wr (w.heap.size+1) (.slice p k c) (.slice none 0 0) (.int .i64 (-1)) (.slice none 0 0) (.bool false)∧eM wr w.heap.size (.slice none 0 0) (.slice none 0 0) (.int .i64 0) (.slice none 0 0) (.bool false)∧(∀b j,w.heap.size≤b→b≤w.heap.size+1→wr.frozen? ⟨b,j,none⟩=false)∧wr.ownsRow (w.heap.size+2) 9 1 (.slice p k c) k (bn lg (List.replicate k iY))∧Bw w wr
theorem P0 (n:Int) (hn:aP n) (w:World) (F:Nat→Prop) (hFF:∀q,w.heap.size≤q→F q):Calls Tryz.prog 60 #[.int .i64 n] w (AF F w (Kt n)):=by
 have ya:=aa hFF;clear hFF;obtain ⟨r,hr⟩:=aG (Kt n);have HR:=aa hr;rw[hr];clear hr;unfold aP at hn;obtain ⟨W1,hW1⟩:=aG (w.alloc (.cells #[.slice none 0 0,.slice none 0 0,.int .i64 0,.slice none 0 0,.bool false] 26));have aZ:=aa (show Bw w W1 by rw[← hW1];exact aq);have aU:=aa (show eM W1 w.heap.size (.slice none 0 0) (.slice none 0 0) (.int .i64 0) (.slice none 0 0) (.bool false) by rw[← hW1];exact eM.new w _ _ _ _ _ _);have Ki:=aa (show W1.heap.size=w.heap.size+1 by rw[← hW1];simp);have sN:=aa (show ∀j,W1.frozen? ⟨w.heap.size,j,none⟩=false by rw[← hW1];intro j;simp);have ed:=aa hW1;clear hW1;by_cases kV:n<1∨5000<n
 case pos=>
  have HE:=aa (HR.symm.trans (TW kV));have hc:n<1∨(¬n<1∧5000<n):=by omega
  clear kV;go_enter Tryz.func60,Tryz.ntmps60;go_upto_region 1 with fail;rw[ed.o];obtain ⟨x0,x1,x2,x3,x4⟩:=aU.o;have f0:=sN.o 0;have f1:=sN.o 1;have f2:=sN.o 2;have f3:=sN.o 3;have f4:=sN.o 4;rcases hc with c1|⟨c1,c2⟩
  ·have d0:decide (n<1)=true:=by simp;omega
   go_wp2_with fail;obtain ⟨q0,q1,q2,q3,q4⟩:=aU.set (vk':=.slice none 0 0) (vc':=.slice none 0 0) (vf':=.int .i64 0) (vp':=.slice none 0 0) (vd':=.bool false);refine au (v:=.tuple #[.agg #[.slice none 0 0,.slice none 0 0,.int .i64 0,.slice none 0 0,.bool false],.int .i64 1]) ⟨.slice none 0 0,.slice none 0 0,.slice none 0 0,by rw[HE.o];rfl,by rw[HE.o];exact oF _,eo aZ aT⟩ ?_;simp[results,Tryz.results60,go_sem,q0,q1,q2,q3,q4]
  ·have d0:decide (n<1)=false:=by simp;omega
   have d1:decide (5000<n)=true:=by simp;omega
   go_wp2_with fail;obtain ⟨q0,q1,q2,q3,q4⟩:=aU.set (vk':=.slice none 0 0) (vc':=.slice none 0 0) (vf':=.int .i64 0) (vp':=.slice none 0 0) (vd':=.bool false);refine au (v:=.tuple #[.agg #[.slice none 0 0,.slice none 0 0,.int .i64 0,.slice none 0 0,.bool false],.int .i64 1]) ⟨.slice none 0 0,.slice none 0 0,.slice none 0 0,by rw[HE.o];rfl,by rw[HE.o];exact oF _,eo aZ aT⟩ ?_;simp[results,Tryz.results60,go_sem,q0,q1,q2,q3,q4]
 case neg=>
  obtain ⟨N,rfl⟩:∃N:Nat,n=N:=⟨n.toNat,by omega⟩
  have HE:=aa (HR.symm.trans (Xo (n:=N) (by omega) (by omega)));have c1:¬(N:Int)<1:=by omega
  have c2:¬(5000:Int)<(N:Int):=by omega
  have d0:decide ((N:Int)<1)=false:=by simp;omega
  have d1:decide ((5000:Int)<(N:Int))=false:=by simp;omega
  have Yp:=aa (show N≤5000 by omega);clear kV;go_enter Tryz.func60,Tryz.ntmps60;go_upto_region 1 with fail;rw[ed.o];go_upto_region 4 with fail;obtain ⟨W2,hW2⟩:=aG (W1.alloc (.cells #[.slice none 0 0,.slice none 0 0,.int .i64 (-1),.slice none 0 0,.bool false] 26));have dY:=aa (show eM W2 (w.heap.size+1) (.slice none 0 0) (.slice none 0 0) (.int .i64 (-1)) (.slice none 0 0) (.bool false) by rw[← hW2,← Ki.o];exact eM.new W1 _ _ _ _ _ _);have J0:Bw W1 W2:=by rw[← hW2];exact aq
  have ym:=aa (aU.below J0);have bU:=aV aZ J0;have FJ:=aa (show ∀b j,w.heap.size≤b→b≤w.heap.size+1→W2.frozen? ⟨b,j,none⟩=false by
   intro b j g1 g2;rcases (show b=w.heap.size∨b=w.heap.size+1 by omega) with e|e
   ·rw[e];exact (J0.frozen (p:=⟨w.heap.size,j,none⟩) (by rw[Ki.o];exact Nat.lt_succ_self _)).trans (sN j)
   ·rw[e,← hW2,← Ki.o];simp)
  rw[hW2,Ki.o];clear hW2 J0;go_wp2_with fail;go_loopw [5] (fun i wr=>L0 w N i wr) (fun i _=>N-(intOf i).toNat)
  case atStart=>exact ⟨0,none,0,dQ,rfl,dY,ym,FJ,⟨by simp[bn],.inl ⟨rfl,rfl⟩⟩,bU⟩
  case round=>
   obtain ⟨k,p,c,hk,rfl,fN,hbz,qi,hrow,hb⟩:=hrel;have sO:=aa fN;have HBZ:=aa hbz;have Kk:=aa qi;have bY:=aa hrow;have HB:=aa hb;have mW:=aa (show w.heap.size+1<wr.heap.size from World.block_lt_of_cell? _ ⟨w.heap.size+1,0,none⟩ fN.1);clear fN hbz qi hrow hb;by_cases hlt:k<N
   case neg=>
    obtain rfl:k=N:=by omega
    obtain ⟨x0,x1,x2,x3,x4⟩:=sO.o;obtain ⟨y0,y1,y2,y3,y4⟩:=HBZ.o;have f0:=Kk.o w.heap.size 0 aT (Nat.le_succ _);have f1:=Kk.o w.heap.size 1 aT (Nat.le_succ _);have f2:=Kk.o w.heap.size 2 aT (Nat.le_succ _);have f3:=Kk.o w.heap.size 3 aT (Nat.le_succ _);have f4:=Kk.o w.heap.size 4 aT (Nat.le_succ _);go_wp2_with fail;obtain ⟨q0,q1,q2,q3,q4⟩:=HBZ.set (vk':=.slice p k c) (vc':=.slice none 0 0) (vf':=.int .i64 (-1)) (vp':=.slice none 0 0) (vd':=.bool false);refine au (v:=.tuple #[.agg #[.slice p k c,.slice none 0 0,.int .i64 (-1),.slice none 0 0,.bool false],.int .i64 0]) ⟨.slice p k c,.slice none 0 0,.slice none 0 0,by rw[HE.o];rfl,?_,eo HB aT⟩ ?_
    ·rw[HE.o]
     refine iL ⟨oC ji (by simp) bY (fun q hq=>⟨ya q (by have:=lj bY hq;omega),by have:=lj bY hq;omega⟩),lC _ _ _,iJ _,⟨fun s hs=>?_,fun s h=>by simp at h,by show aP (-1);unfold aP;omega⟩⟩;rw[(List.mem_replicate.1 hs).2];show 32≤maxLen;unfold maxLen;omega
    ·simp[results,Tryz.results60,go_sem,q0,q1,q2,q3,q4]
   case pos=>
   have fO:(k:Int)<(N:Int):=(by omega);have hkd:decide ((k:Int)<(N:Int))=true:=by simp;omega
   have hk5:k≤5000:=by have:=Yp.o;omega
   obtain ⟨x0,x1,x2,x3,x4⟩:=sO.o;have hdr:Bw wr wr.drew:=aH.drew;go_upto_region 7 with fail;have ad4:=ae hdr x0;have kR:=aa (ae hdr x1);refine wp_region_held_drew (S:=fun w'=>w'.cell? ⟨w.heap.size+1,1,none⟩=some (.slice none 0 0)) (by kernel_rfl) kR (fun hHeld=>?_);refine cD 0 19 (.pointer (some ⟨w.heap.size+1,0,none⟩)) rfl rfl hHeld ?_;simp only[aF];refine wpAnyH_ready (rs:=[1,2]) (by kernel_rfl) (by simp) ?_;refine AllReadyH.cons rfl (fun K hK=>?_) (AllReadyH.cons rfl (fun K hK=>?_) AllReadyH.nil)
   ·go_simp
    refine hK.out _ _ kR.o (fun hHeld=>?_);clear hK K;refine kn 2 rfl (fun K hK=>?_);go_simp;refine (D8 wr.drew).mono ?_;rintro e w6 ⟨rfl,cW⟩;have dO:Bw wr w6:=ak hdr cW;obtain ⟨g,cp,w7,hrun,cj⟩:=BG w6 (w.heap.size+2) k (.slice p k c) (List.replicate k iY) iY (aM bY.o dO) (by omega) (Nat.le_trans mW.o dO.size);have hx6:=ae dO x0;have BZ:=ae ((Below.refl _ w6).alloc (Nat.le_refl w6.heap.size) (.cells #[.string iY] 9)) hx6;have Dh:=aa (ae dO x1);have gG:=aa (ae ((Below.refl _ w6).alloc (Nat.le_refl w6.heap.size) (.cells #[.string iY] 9)) Dh.o);have CA:∀b,b≤w.heap.size+1→some b≠(Value.slice p k c).ownBlock:=fun b hb e=>by have:=lj bY.o e.symm;omega
    have hl6:w.heap.size+1<w6.heap.size:=Nat.lt_of_lt_of_le mW.o dO.size;have ly:=aa ((sO.o.below dO).grown cj.grown (CA _ aT));have E0:=aa ((HBZ.o.below dO).grown cj.grown (CA _ (Nat.le_succ _)));have Yd:=aa (fun b j (g1:w.heap.size≤b) (g2:b≤w.heap.size+1)=>show w7.frozen? ⟨b,j,none⟩=false from (vB cj.grown j (Nat.lt_of_le_of_lt g2 hl6) (CA _ g2)).trans ((dO.frozen (p:=⟨b,j,none⟩) (show b<wr.heap.size from Nat.lt_of_le_of_lt g2 mW.o)).trans (Kk.o b j g1 g2)));have fg:=aa (show Bw w w7 from (ak HB.o dO).grown cj.grown (ak HB.o dO).size (fun b hb=>by have:=lj bY.o hb;omega));have TR:w.heap.size+2≤g:=lj cj.row rfl;have Jl:=cj.row;have B6:=aa (show L0 w N (.int .i64 (k+1:Nat)) (w7.setCell ⟨w.heap.size+1,0,none⟩ (.slice (some ⟨g,0,none⟩) (k+1) cp)) from ⟨k+1,some ⟨g,0,none⟩,cp,by omega,rfl,ly.o.qI _,E0.o.far (by omega) _,fun b j g1 g2=>by simpa using Yd.o b j g1 g2,by
     refine ownsRow_setCell_other ?_ (fun e=>by simp[Value.ownBlock] at e;omega) _;rw[List.replicate_succ',← fF];exact Jl,fg.o.setCell (p:=⟨w.heap.size+1,0,none⟩) (Nat.le_succ _) _⟩)
    have qU:=aa ly.o.2.1;have Di:=aa (ly.o.qI (.slice (some ⟨g,0,none⟩) (k+1) cp)).2.1;have dM:=aa hrun;have hf7:=Yd.o (w.heap.size+1) 0 (Nat.le_succ _) aT;have hx7:=ly.o.1;clear hrun cj cW dO CA Jl TR hl6;go_simp;refine hK.out _ _ Dh.o (fun hHeld=>?_);clear hK K;refine kn 3 rfl (fun K hK=>?_);go_simp;refine hK.out _ _ gG.o (fun hHeld=>?_);clear hK K;refine kn 4 rfl (fun K hK=>?_);refine bE rfl _ _ _ rfl rfl rfl dM.o ?_;refine hK.out _ _ qU.o (fun hHeld=>?_);clear hK K;refine cD 5 24 (.pointer (some ⟨w.heap.size+1,0,none⟩)) rfl rfl hHeld ?_;simp only[Act.put,List.setIfInBounds_toArray];refine kn 6 rfl (fun K hK=>?_);go_simp;refine hK.out _ _ Di.o (fun hHeld=>?_);clear hK K;clear hHeld;refine wpAnyH_done (by kernel_rfl) ?_ _;go_wp2_with fail;go_roundw
    case rel=>simpa using B6.o
    case measure=>simp[intOf];omega
   ·go_simp
    refine (D8 wr.drew).mono ?_;rintro e w6 ⟨rfl,cW⟩;have dO:Bw wr w6:=ak hdr cW;obtain ⟨g,cp,w7,hrun,cj⟩:=BG w6 (w.heap.size+2) k (.slice p k c) (List.replicate k iY) iY (aM bY.o dO) (by omega) (Nat.le_trans mW.o dO.size);have hx6:=ae dO x0;have BZ:=ae ((Below.refl _ w6).alloc (Nat.le_refl w6.heap.size) (.cells #[.string iY] 9)) hx6;have Dh:=aa (ae dO x1);have gG:=aa (ae ((Below.refl _ w6).alloc (Nat.le_refl w6.heap.size) (.cells #[.string iY] 9)) Dh.o);have CA:∀b,b≤w.heap.size+1→some b≠(Value.slice p k c).ownBlock:=fun b hb e=>by have:=lj bY.o e.symm;omega
    have hl6:w.heap.size+1<w6.heap.size:=Nat.lt_of_lt_of_le mW.o dO.size;have ly:=aa ((sO.o.below dO).grown cj.grown (CA _ aT));have E0:=aa ((HBZ.o.below dO).grown cj.grown (CA _ (Nat.le_succ _)));have Yd:=aa (fun b j (g1:w.heap.size≤b) (g2:b≤w.heap.size+1)=>show w7.frozen? ⟨b,j,none⟩=false from (vB cj.grown j (Nat.lt_of_le_of_lt g2 hl6) (CA _ g2)).trans ((dO.frozen (p:=⟨b,j,none⟩) (show b<wr.heap.size from Nat.lt_of_le_of_lt g2 mW.o)).trans (Kk.o b j g1 g2)));have fg:=aa (show Bw w w7 from (ak HB.o dO).grown cj.grown (ak HB.o dO).size (fun b hb=>by have:=lj bY.o hb;omega));have TR:w.heap.size+2≤g:=lj cj.row rfl;have Jl:=cj.row;have B6:=aa (show L0 w N (.int .i64 (k+1:Nat)) (w7.setCell ⟨w.heap.size+1,0,none⟩ (.slice (some ⟨g,0,none⟩) (k+1) cp)) from ⟨k+1,some ⟨g,0,none⟩,cp,by omega,rfl,ly.o.qI _,E0.o.far (by omega) _,fun b j g1 g2=>by simpa using Yd.o b j g1 g2,by
     refine ownsRow_setCell_other ?_ (fun e=>by simp[Value.ownBlock] at e;omega) _;rw[List.replicate_succ',← fF];exact Jl,fg.o.setCell (p:=⟨w.heap.size+1,0,none⟩) (Nat.le_succ _) _⟩)
    have qU:=aa ly.o.2.1;have Di:=aa (ly.o.qI (.slice (some ⟨g,0,none⟩) (k+1) cp)).2.1;have dM:=aa hrun;have hf7:=Yd.o (w.heap.size+1) 0 (Nat.le_succ _) aT;have hx7:=ly.o.1;clear hrun cj cW dO CA Jl TR hl6;go_simp;refine hK.out _ _ Dh.o (fun hHeld=>?_);clear hK K;refine wpAnyH_ready (rs:=[1,3]) (by kernel_rfl) (by simp) ?_;refine AllReadyH.cons rfl (fun K hK=>?_) (AllReadyH.cons rfl (fun K hK=>?_) AllReadyH.nil)
    ·go_simp
     refine hK.out _ _ Dh.o (fun hHeld=>?_);clear hK K;refine kn 3 rfl (fun K hK=>?_);go_simp;refine hK.out _ _ gG.o (fun hHeld=>?_);clear hK K;refine kn 4 rfl (fun K hK=>?_);refine bE rfl _ _ _ rfl rfl rfl dM.o ?_;refine hK.out _ _ qU.o (fun hHeld=>?_);clear hK K;refine cD 5 24 (.pointer (some ⟨w.heap.size+1,0,none⟩)) rfl rfl hHeld ?_;simp only[Act.put,List.setIfInBounds_toArray];refine kn 6 rfl (fun K hK=>?_);go_simp;refine hK.out _ _ Di.o (fun hHeld=>?_);clear hK K;clear hHeld;refine wpAnyH_done (by kernel_rfl) ?_ _;go_wp2_with fail;go_roundw
     case rel=>simpa using B6.o
     case measure=>simp[intOf];omega
    ·go_simp
     refine hK.out _ _ gG.o (fun hHeld=>?_);clear hK K;refine kn 1 rfl (fun K hK=>?_);go_simp;refine hK.out _ _ gG.o (fun hHeld=>?_);clear hK K;refine kn 4 rfl (fun K hK=>?_);refine bE rfl _ _ _ rfl rfl rfl dM.o ?_;refine hK.out _ _ qU.o (fun hHeld=>?_);clear hK K;refine cD 5 24 (.pointer (some ⟨w.heap.size+1,0,none⟩)) rfl rfl hHeld ?_;simp only[Act.put,List.setIfInBounds_toArray];refine kn 6 rfl (fun K hK=>?_);go_simp;refine hK.out _ _ Di.o (fun hHeld=>?_);clear hK K;clear hHeld;refine wpAnyH_done (by kernel_rfl) ?_ _;go_wp2_with fail;go_roundw
     case rel=>simpa using B6.o
     case measure=>simp[intOf];omega
def rH (a b:aL):Bool:=decide (a.kept=b.kept∧a.cache=b.cache∧a.ah=b.ah∧a.dead=b.dead∧a.keep=b.keep)
theorem oL {a b:aL} (h:¬(a.kept=b.kept∧a.cache=b.cache∧a.ah=b.ah∧a.dead=b.dead∧a.keep=b.keep)):rH a b=false:=by unfold rH;rw[decide_eq_false_iff_not];exact h
theorem D9 {a b:aL}:rH a b=true↔(a.kept=b.kept∧a.cache=b.cache∧a.ah=b.ah∧a.dead=b.dead∧a.keep=b.keep):=by unfold rH;rw[decide_eq_true_eq]
theorem Jn {a b:aL}:rH a b=true↔a=b:=by
 rw[D9];constructor
 ·rintro ⟨h1,h2,h3,h4,h5⟩
  cases a;cases b;simp only at h1 h2 h3 h4 h5;subst h1;subst h2;subst h3;subst h4;subst h5;rfl
 ·rintro rfl;exact ⟨rfl,rfl,rfl,rfl,rfl⟩
def Two (W:World) (B:Nat) (v0 v1 v2 v3 v4 u0 u1 u2 u3 u4:Value):Prop:=eM W B v0 v1 v2 v3 v4∧eM W (B+1) u0 u1 u2 u3 u4
theorem Two.below {W W':World} {B:Nat} {v0 v1 v2 v3 v4 u0 u1 u2 u3 u4:Value} (h:Two W B v0 v1 v2 v3 v4 u0 u1 u2 u3 u4) (hb:Bw W W'):Two W' B v0 v1 v2 v3 v4 u0 u1 u2 u3 u4:=⟨h.1.below hb,h.2.below hb⟩
theorem L5 (d e:aL) (vk vc vp uk uc up:Value) (w:World) (h:bP w d vk vc vp) (h':bP w e uk uc up):Calls Tryz.prog 46 #[eE d vk vc vp,eE e uk uc up] w fun z w'=>z=.returned (.bool (rH d e))∧Bw w w':=by
 have U1:=aa (fun (W:World) (hb:Bw w W)=>LZ d.kept e.kept vk uk W (h.kept.keep (af hb)) (h'.kept.keep (af hb)));have rR:=aa (fun (W:World) (hb:Bw w W)=>PZ d.keep e.keep vp up W (h.keep.keep (af hb)) (h'.keep.keep (af hb)));obtain ⟨bt,UF⟩:∃b,lT d.kept e.kept=b:=⟨_,rfl⟩
 obtain ⟨bs,UD⟩:∃b,pG d.keep e.keep=b:=⟨_,rfl⟩
 rw[UF] at U1;rw[UD] at rR;unfold lT at UF;unfold pG at UD;have HBT:=aa UF;have ux:=aa UD;clear UF UD;obtain ⟨r,hr⟩:=aG (rH d e);have HR:=aa hr;rw[hr];obtain ⟨pk1,ck1,rfl,_,k1⟩:=h.kept.slice;obtain ⟨pc1,cc1,rfl,b1,b2⟩:=h.cache.slice;obtain ⟨pp1,cp1,rfl,_,_⟩:=h.keep.slice;obtain ⟨Yf,Yg,rfl,_,_⟩:=h'.kept.slice;obtain ⟨Yh,Yi,rfl,e1,e2⟩:=h'.cache.slice;obtain ⟨Yj,V7,rfl,_,_⟩:=h'.keep.slice;have tB:=aa h.cache.cells;have pK:=aa h'.cache.cells;obtain ⟨agR,BH,U5,agS,P2⟩:=d;obtain ⟨agT,BI,fu2,agV,de2⟩:=e;simp only at b1 e1 tB pK U1 rR HBT ux;unfold eE;simp only;clear h h' hr;obtain ⟨N1,hN1⟩:∃N,agR.length=N:=⟨_,rfl⟩
 obtain ⟨N2,hN2⟩:∃N,agT.length=N:=⟨_,rfl⟩
 obtain ⟨M1,hM1⟩:∃N,BH.length=N:=⟨_,rfl⟩
 obtain ⟨M2,hM2⟩:∃N,BI.length=N:=⟨_,rfl⟩
 obtain ⟨L1,hL1⟩:∃N,agS.length=N:=⟨_,rfl⟩
 obtain ⟨L2,hL2⟩:∃N,agV.length=N:=⟨_,rfl⟩
 rw[hN1,hN2] at U1;rw[hL1,hL2] at rR;rw[hM1] at b1;rw[hM2] at e1;rw[hN1,hN2,hM1,hM2,hL1,hL2];have JO:=aa hM1;have CO:=aa hM2;have l1:=fK (n:=M1) b2;have l2:=fK (n:=M2) e2;clear hN1 hN2 hM1 hM2 hL1 hL2 b1 b2 e1 e2 k1;obtain ⟨W1,hW1⟩:=aG ((w.alloc (.cells #[.slice pk1 N1 ck1,.slice pc1 M1 cc1,.int .i64 U5,.slice pp1 L1 cp1,.bool P2] 26)).alloc (.cells #[.slice Yf N2 Yg,.slice Yh M2 Yi,.int .i64 fu2,.slice Yj L2 V7,.bool de2] 26));have aZ:=aa (show Bw w W1 by rw[← hW1];exact (aq).alloc (by simp) _);have aU:=aa (show Two W1 w.heap.size (.slice pk1 N1 ck1) (.slice pc1 M1 cc1) (.int .i64 U5) (.slice pp1 L1 cp1) (.bool P2) (.slice Yf N2 Yg) (.slice Yh M2 Yi) (.int .i64 fu2) (.slice Yj L2 V7) (.bool de2) by
  rw[← hW1];refine ⟨(eM.new w _ _ _ _ _ _).below (aq),?_⟩;have:=eM.new (w.alloc (.cells #[.slice pk1 N1 ck1,.slice pc1 M1 cc1,.int .i64 U5,.slice pp1 L1 cp1,.bool P2] 26)) (.slice Yf N2 Yg) (.slice Yh M2 Yi) (.int .i64 fu2) (.slice Yj L2 V7) (.bool de2) 26;rw[show (w.alloc (.cells #[.slice pk1 N1 ck1,.slice pc1 M1 cc1,.int .i64 U5,.slice pp1 L1 cp1,.bool P2] 26)).heap.size=w.heap.size+1 by simp] at this;exact this)
 have ed:=aa hW1;clear hW1;go_enter Tryz.func46,Tryz.ntmps46;go_upto_region 1 with fail;rw[ed.o];obtain ⟨⟨x0,x1,x2,x3,x4⟩,y0,y1,y2,y3,y4⟩:=aU.o;cases bt with
 |false=>have HE:=aa (HR.symm.trans (oL (fun h=>by have:=HBT.o;rw[decide_eq_false_iff_not] at this;exact this h.1)));go_wp2_with (go_at_call 99;(with_reducible refine (U1.o _ aZ.o).mono ?_);rintro e w5 ⟨rfl,aR⟩;have bA:=aV aZ aR;have fQ:=aa (aU.o.below aR);obtain ⟨⟨x0,x1,x2,x3,x4⟩,y0,y1,y2,y3,y4⟩:=fQ.o;clear aR);go_ret;exact ⟨aO HE.symm,bA⟩
 |true=>
  by_cases hM:M1=M2
  case neg=>
   have hne:((M1:Int) != (M2:Int))=true:=by rw[bne_iff_ne];omega
   have HE:=aa (HR.symm.trans (oL (fun h=>by exact hM (by rw[← JO.o,← CO.o];exact congrArg _ h.2.1))));clear hM;go_wp2_with (go_at_call 99;(with_reducible refine (U1.o _ aZ.o).mono ?_);rintro e w5 ⟨rfl,aR⟩;have bA:=aV aZ aR;have fQ:=aa (aU.o.below aR);obtain ⟨⟨x0,x1,x2,x3,x4⟩,y0,y1,y2,y3,y4⟩:=fQ.o;clear aR);go_ret;exact ⟨aO HE.symm,bA⟩
  subst hM;have CA:((M1:Int) != (M1:Int))=false:=by simp
  by_cases hF:U5=fu2
  case neg=>
   have hne:(U5 != fu2)=true:=by rw[bne_iff_ne];exact hF
   have HE:=aa (HR.symm.trans (oL (fun h=>by exact hF h.2.2.1)));clear hF;go_wp2_with (go_at_call 99;(with_reducible refine (U1.o _ aZ.o).mono ?_);rintro e w5 ⟨rfl,aR⟩;have bA:=aV aZ aR;have fQ:=aa (aU.o.below aR);obtain ⟨⟨x0,x1,x2,x3,x4⟩,y0,y1,y2,y3,y4⟩:=fQ.o;clear aR);go_ret;exact ⟨aO HE.symm,bA⟩
  subst hF;have agI:(U5 != U5)=false:=by simp
  by_cases hD:P2=de2
  case neg=>
   have hne:(P2 != de2)=true:=by rw[bne_iff_ne];exact hD
   have Xn:(P2==de2)=false:=by rw[beq_eq_false_iff_ne];exact hD
   have HE:=aa (HR.symm.trans (oL (fun h=>by exact hD h.2.2.2.1)));clear hD;go_wp2_with (go_at_call 99;(with_reducible refine (U1.o _ aZ.o).mono ?_);rintro e w5 ⟨rfl,aR⟩;have bA:=aV aZ aR;have fQ:=aa (aU.o.below aR);obtain ⟨⟨x0,x1,x2,x3,x4⟩,y0,y1,y2,y3,y4⟩:=fQ.o;clear aR);go_ret;exact ⟨aO HE.symm,bA⟩
  subst hD;have aaU:(P2 != P2)=false:=by simp
  have aqg:(P2==P2)=true:=by simp
  cases bs with
  |false=>have HE:=aa (HR.symm.trans (oL (fun h=>by have:=ux.o;rw[decide_eq_false_iff_not] at this;exact this h.2.2.2.2)));go_wp2_with (first|(go_at_call 99;(with_reducible refine (U1.o _ aZ.o).mono ?_);rintro e w5 ⟨rfl,aR⟩;have bA:=aV aZ aR;have fQ:=aa (aU.o.below aR);obtain ⟨⟨x0,x1,x2,x3,x4⟩,y0,y1,y2,y3,y4⟩:=fQ.o;clear aR)|(go_at_call 100;(with_reducible refine (rR.o _ bA.o).mono ?_);rintro e w6 ⟨rfl,cW⟩;have cQ:=aV bA cW;have kB:=aa (fQ.o.below cW);obtain ⟨⟨x0,x1,x2,x3,x4⟩,y0,y1,y2,y3,y4⟩:=kB.o;clear cW));go_ret;exact ⟨aO HE.symm,cQ⟩
  |true=>
   go_upto_region 3 with (first|(go_at_call 99;(with_reducible refine (U1.o _ aZ.o).mono ?_);rintro e w5 ⟨rfl,aR⟩;have bA:=aV aZ aR;have fQ:=aa (aU.o.below aR);obtain ⟨⟨x0,x1,x2,x3,x4⟩,y0,y1,y2,y3,y4⟩:=fQ.o;clear aR)|(go_at_call 100;(with_reducible refine (rR.o _ bA.o).mono ?_);rintro e w6 ⟨rfl,cW⟩;have cQ:=aV bA cW;have kB:=aa (fQ.o.below cW);obtain ⟨⟨x0,x1,x2,x3,x4⟩,y0,y1,y2,y3,y4⟩:=kB.o;clear cW));go_wp2_with fail;go_loopw [5] (fun i wr=>∃k:Nat,k≤M1∧i=.int .i64 k∧(∀(j:Nat),j<k→BH[j]?=BI[j]?)∧Two wr w.heap.size (.slice pk1 N1 ck1) (.slice pc1 M1 cc1) (.int .i64 U5) (.slice pp1 L1 cp1) (.bool P2) (.slice Yf N2 Yg) (.slice Yh M1 Yi) (.int .i64 U5) (.slice Yj L2 V7) (.bool P2)∧Bw w wr) (fun i _=>M1-(intOf i).toNat)
   case atStart=>exact ⟨0,dQ,rfl,fun j hj=>by omega,kB,cQ⟩
   case round=>
    obtain ⟨k,hk,rfl,hall,hx,hb⟩:=hrel;have ez:=aa hall;have HB:=aa hb;have HX:=aa hx;clear hall hb hx x0 x1 x2 x3 x4 y0 y1 y2 y3 y4;obtain ⟨⟨x0,x1,x2,x3,x4⟩,y0,y1,y2,y3,y4⟩:=HX.o;by_cases hlt:k<M1
    case neg=>
     obtain rfl:k=M1:=by omega
     have HE:=aa (HR.symm.trans (D9.2 ⟨by have:=HBT.o;rw[decide_eq_true_eq] at this;exact this,by
      apply List.ext_getElem?;intro j;by_cases hj:j<k
      ·exact ez j hj
      ·rw[List.getElem?_eq_none (by rw[JO.o];omega),List.getElem?_eq_none (by rw[CO.o];omega)],rfl,rfl,by have:=ux.o;rw[decide_eq_true_eq] at this;exact this⟩))
     go_wp2_with fail;go_ret;exact ⟨aO HE.symm,HB⟩
    have fO:(k:Int)<(M1:Int):=(by omega);obtain ⟨⟨s1,s2⟩,hs⟩:∃s,BH[k]?=some s:=⟨_,List.getElem?_eq_getElem (by rw[JO.o];omega)⟩
    obtain ⟨⟨t1,t2⟩,ht⟩:∃t,BI[k]?=some t:=⟨_,List.getElem?_eq_getElem (by rw[CO.o];omega)⟩
    obtain ⟨g,o,rfl,c1⟩:=tB.o k _ hs;obtain ⟨g',o',rfl,c2⟩:=pK.o k _ ht;have r1:=ae HB (c1 0 _ rfl);have r2:=ae HB (c1 1 _ rfl);have r3:=ae HB (c2 0 _ rfl);have r4:=ae HB (c2 1 _ rfl);replace r1:wr.cell? ⟨g,o+k*2,none⟩=some (.int .i64 s1):=r1;replace r2:wr.cell? ⟨g,o+k*2+1,none⟩=some (.string s2):=r2;replace r3:wr.cell? ⟨g',o'+k*2,none⟩=some (.int .i64 t1):=r3;replace r4:wr.cell? ⟨g',o'+k*2+1,none⟩=some (.string t2):=r4;have HS:=aa hs;have HT:=aa ht;clear hs ht c1 c2;by_cases hst:s1=t1∧s2=t2
    ·obtain ⟨rfl,rfl⟩:=hst
     have Ac:=aa (show ∀(j:Nat),j<k+1→BH[j]?=BI[j]? from fun j hj=>by
      by_cases e:j=k
      ·rw[e,HS.o,HT.o]
      ·exact ez j (by omega))
     have b1:(s1==s1)=true:=(by simp);have b2:(s2.toList==s2.toList)=true:=by simp
     go_wp2_with fail;go_quiet (fail);go_wp2_with fail;go_roundw
     case rel=>exact ⟨k+1,by omega,by go_num,Ac.o,HX.o.below (ay aH _),ay HB.o _⟩
     case measure=>simp[intOf];omega
    ·have HE:=aa (HR.symm.trans (oL (fun h=>by
      have h2:BH=BI:=h.2.1;have:=HS.o;rw[h2,HT.o] at this;injection this with this;injection this with this this2;exact hst ⟨this.symm,this2.symm⟩)))
     have hc:((s1==t1)=false)∨((s1==t1)=true∧(s2.toList==t2.toList)=false):=by
      by_cases e1:s1=t1
      ·refine .inr ⟨by simpa using e1,?_⟩
       rw[beq_eq_false_iff_ne];intro e;rw[ByteArray.toList_eq,ByteArray.toList_eq] at e;exact hst ⟨e1,Go.WideShapes.bytes_inj e⟩
      ·exact .inl (by simpa using e1)
     clear hst;rcases hc with b1|⟨b1,b2⟩
     ·go_wp2_with fail
      go_quiet (fail);go_wp2_with fail;go_ret;exact ⟨aO HE.o.symm,ay HB.o _⟩
     ·go_wp2_with fail
      go_quiet (fail);go_wp2_with fail;go_ret;exact ⟨aO HE.o.symm,ay HB.o _⟩
def uh (d:aL):Bool:=decide (d.kept.length≤200∧d.cache.length≤200∧d.keep.length≤400)
theorem Jo (d:aL) (vk vc vp:Value) (w:World) (h:bP w d vk vc vp):Calls Tryz.prog 21 #[eE d vk vc vp] w fun z w'=>z=.returned (.bool (uh d))∧Bw w w':=by
 obtain ⟨r,hr⟩:=aG (uh d);have HR:=aa hr;rw[hr];obtain ⟨pk,ck,rfl,a1,a2⟩:=h.kept.slice;obtain ⟨pc,cc,rfl,b1,b2⟩:=h.cache.slice;obtain ⟨pp,cp,rfl,c1,c2⟩:=h.keep.slice;unfold uh at HR;clear h hr;obtain ⟨kept,cache,fu,keep,de⟩:=d;unfold eE;simp only at HR a1 b1 c1 ⊢;obtain ⟨N,hN⟩:=aG kept.length;obtain ⟨M,hM⟩:∃N,cache.length=N:=⟨_,rfl⟩
 obtain ⟨L,hL⟩:∃N,keep.length=N:=⟨_,rfl⟩
 rw[hN,hM,hL] at HR ⊢;rw[hN] at a1;rw[hM] at b1;rw[hL] at c1;have l1:=fK (n:=N) a2;have l2:=fK (n:=M) b2;have l3:=fK (n:=L) c2;clear hN hM hL a1 a2 b1 b2 c1 c2;obtain ⟨W1,hW1⟩:=aG (w.alloc (.cells #[.slice pk N ck,.slice pc M cc,.int .i64 fu,.slice pp L cp,.bool de] 26));have aZ:=aa (show Bw w W1 by rw[← hW1];exact aq);have aU:=aa (show eM W1 w.heap.size (.slice pk N ck) (.slice pc M cc) (.int .i64 fu) (.slice pp L cp) (.bool de) by rw[← hW1];exact eM.new w _ _ _ _ _ _);have ed:=aa hW1;clear hW1;go_enter Tryz.func21,Tryz.ntmps21;go_upto_region 1 with fail;rw[ed.o];obtain ⟨x0,x1,x2,x3,x4⟩:=aU.o;have hc:(¬(N:Int)≤200∧r=false)∨((N:Int)≤200∧¬(M:Int)≤200∧r=false)∨((N:Int)≤200∧(M:Int)≤200∧r=decide ((L:Int)≤400)):=by
  have:=HR.o;by_cases h1:N≤200
  ·by_cases h2:M≤200
   ·exact .inr (.inr ⟨by omega,by omega,by rw[← this];simp[h1,h2];omega⟩)
   ·exact .inr (.inl ⟨by omega,by omega,by rw[← this];simp[h2]⟩)
  ·exact .inl ⟨by omega,by rw[← this];simp[h1]⟩
 rcases hc with ⟨g1,g4⟩|⟨g1,g2,g4⟩|⟨g1,g2,g4⟩
 ·have q1:decide ((N:Int)≤200)=false:=by simp;omega
  go_wp2_with fail;go_ret;exact ⟨rfl,aZ⟩
 ·have q1:decide ((N:Int)≤200)=true:=by simp;omega
  have q2:decide ((M:Int)≤200)=false:=by simp;omega
  go_wp2_with fail;go_ret;exact ⟨rfl,aZ⟩
 ·have q1:decide ((N:Int)≤200)=true:=by simp;omega
  have q2:decide ((M:Int)≤200)=true:=by simp;omega
  have HG:=aa g4;clear g4;go_wp2_with fail;go_ret;exact ⟨aO HG.symm,aZ⟩
def abp (T:List (List aj)):Prop:=∀t∈T,∀u∈t,u.2.2.2=true
theorem Ec {n:Nat}:∀(C:List az) (T T':List (List aj)),gA n T C=some T'→abp T→abp T'
 |[],T,T',h,h1=>by simp only[gA,Option.some.injEq] at h;subst h;exact h1
 |p::C,T,T',h,h1=>by
  simp only[gA] at h
  split at h
  ·refine Ec C (sR T p) T' h (fun x hx u hu=>?_)
   unfold sR at hx;rcases List.mem_or_eq_of_mem_set hx with hx|rfl
   ·exact h1 x hx u hu
   ·rw[List.mem_append,List.mem_singleton] at hu
    rcases hu with hu|rfl
    ·cases ht:T[fX p]? with
     |none=>rw[ht] at hu;simp at hu
     |some t=>rw[ht] at hu;exact h1 t (List.mem_of_getElem? ht) u hu
    ·rfl
  ·simp at h
theorem Js {l:List dy} {c:Int} {T:List (List aj)} (h:cg l c=some T):abp T:=by
 unfold cg at h
 split at h
 ·cases hq:gA c.toNat (List.replicate c.toNat []) (aY l) with
  |none=>rw[hq] at h;cases h
  |some U=>
   rw[hq] at h;simp only at h
   split at h
   ·injection h with h;subst h
    refine Ec _ _ _ hq (fun t ht u hu=>?_);rw[List.eq_of_mem_replicate ht] at hu;simp at hu
   ·cases h
 ·cases h
theorem Jt:∀ {l m:List aj},sM l m=true↔l.map Ao=m.map Ao
 |[],[]=>by simp[sM]
 |[],_::_=>by simp[sM]
 |_::_,[]=>by simp[sM]
 |(a,b,c,d)::l,(x,y,z,q)::m=>by unfold sM;rw[Bool.and_eq_true,Jt (l:=l) (m:=m)];unfold ui Ao;simp[and_assoc]
theorem Xt {m:List aj} (h:∀u∈m,u.2.2.2=true):m.map Ao=m:=by
 rw[List.map_congr_left (g:=id)]
 ·simp
 ·rintro ⟨a,b,c,d⟩ hu
  have:=h _ hu;simp only at this;subst this;rfl
theorem P9 {t:List aj} (h:dD t=true):(jn t).map Ao=aQ t:=by
 unfold jn aQ;rw[List.filter_congr (q:=fun u=>decide (0<u.2.2.1))];intro u hu;have:=(bW.1 (gV h hu)).2.2.2.2.1;by_cases h0:u.2.2.1=0
 ·simp[h0]
 ·have:0<u.2.2.1:=by omega
  simp[h0,this]
theorem yH {t u:List aj} (h:dD t=true) (hu:∀x∈u,x.2.2.2=true):sM (jn t) u=true↔aQ t=u:=by rw[Jt,P9 h,Xt hu]
theorem BK (p:bX) (v:PV) (w:World) (h:bh w p v) (ls:bO p.av):Calls Tryz.prog 25 #[dZ p v] w fun e w'=>e=.returned (.bool (cA p))∧Bw w w':=by
 obtain ⟨W,hW⟩:=aG (w.alloc (.cells #[v.k,v.c,.int .i64 p.disk.ah,v.p,.bool p.disk.dead,.int .i64 p.met,.int .i64 p.gen,.int .i64 p.aD,v.v,v.t] 30));have HX:=aa (show wN W w.heap.size p v by rw[← hW];exact wN.new w p v _);have HB:=aa (show Bw w W by rw[← hW];exact aq);have HK:=aa (fun (V:World) (hb:Bw w V)=>xm p.disk v.k v.c v.p V (h.disk.below hb));have HT:=aa (fun (V:World) (hb:Bw w V)=>tY p.tabs v.t V (h.tabs.keep (af hb)));have HQ:=aa (fun (V:World) (hb:Bw w V)=>Ot p.av p.tabs.length v.v V (h.av.keep (af hb)) ls);have HP:=aa h;obtain ⟨pk,ck,ek,_,_⟩:=h.disk.kept.slice;obtain ⟨pc,cc,ec,_,_⟩:=h.disk.cache.slice;obtain ⟨pp,cp,ep,_,_⟩:=h.disk.keep.slice;obtain ⟨pt,ct,et,b1,b2⟩:=jw h.tabs;obtain ⟨pv,cv,ev,_⟩:=h.av;have oP:=aa (@AO p);have EW:=aa (@bF p);clear h ls;obtain ⟨⟨kept,cache,ah,keep,dead⟩,met,gen,aD,av,tabs⟩:=p;obtain ⟨vk,vc,vp,vv,vt⟩:=v;simp only at ek ec ep et ev HX HK HT HQ HP oP EW hW b1;subst ek;subst ec;subst ep;subst et;subst ev;unfold dZ at *;unfold wN at HX;unfold eE at HK;simp only at HX HK oP EW hW ⊢;obtain ⟨mk,jP⟩:∃m,gu ⟨kept,cache,ah,keep,dead⟩=m:=⟨_,rfl⟩
 rw[jP] at HK oP EW;obtain ⟨mt,wL⟩:∃m,cF tabs=m:=⟨_,rfl⟩
 rw[wL] at HT oP EW;have JU:=aa jP;have yg:=aa wL;obtain ⟨KN,UG⟩:∃n,kept.length=n:=⟨_,rfl⟩
 obtain ⟨TN,Wj⟩:∃n,tabs.length=n:=⟨_,rfl⟩
 have HKN:=aa UG;have Sy:=aa Wj;have KR:=aa (show (tabs.length:Int)≤9223372036854775807 by unfold maxLen at b2;omega);have HKB:=aa (JU.o);rw[UG] at HX oP EW hW HK;rw[Wj] at HX oP EW hW HQ HT KR;obtain ⟨r,hr⟩:=aG (cA ⟨⟨kept,cache,ah,keep,dead⟩,met,gen,aD,av,tabs⟩);rw[hr] at oP EW;rw[hr,UG,Wj];clear jP wL UG Wj hr b1 b2;go_enter Tryz.func25,Tryz.ntmps25;go_upto_region 1 with fail
 try rw[hW]
 clear hW;obtain ⟨c0,c1,c2,c3,c4,c5,c6,c7,c8,c9⟩:=HX.o;cases mk with
 |false=>have HF:=aa (show r=false from oP (fun h=>by have:=h.1;cases this));go_wp2_with (go_at_call 62;(with_reducible refine (HK.o _ HB.o).mono ?_);rintro e w5 ⟨rfl,aR⟩;have bA:=aV HB aR;clear aR);go_ret;exact ⟨aO HF.symm,bA⟩
 |true=>
 cases mt with
 |false=>have HF:=aa (show r=false from oP (fun h=>by have:=h.2.1;cases this));go_wp2_with (first|(go_at_call 62;(with_reducible refine (HK.o _ HB.o).mono ?_);rintro e w5 ⟨rfl,aR⟩;have bA:=aV HB aR;have fQ:=aa (ae aR c9);clear aR;have k9:=fQ.o)|(go_at_call 63;(with_reducible refine (HT.o _ bA.o).mono ?_);rintro e w6 ⟨rfl,cW⟩;have cQ:=aV bA cW;clear cW));go_ret;exact ⟨aO HF.symm,cQ⟩
 |true=>
 have HPX:=aa (show wN W w.heap.size ⟨⟨kept,cache,ah,keep,dead⟩,met,gen,aD,av,tabs⟩ ⟨.slice pk KN ck,.slice pc cache.length cc,.slice pp keep.length cp,.slice pv av.length cv,.slice pt TN ct⟩ from ⟨c0,c1,c2,c3,c4,c5,c6,c7,c8,c9⟩);have ag0:=aa (show ∀(i:Nat) t,tabs[i]?=some t→dD t=true from fun i t ht=>by
  have h:=yg.o;unfold cF at h;simp only[Bool.and_eq_true,List.all_eq_true] at h;exact h.1 t (List.mem_of_getElem? ht))
 by_cases hok1:1≤met∧met≤1000
 case neg=>
  have HF:=aa (show r=false from oP (fun h=>hok1 h.2.2.1));have kV:met<1∨(¬met<1∧1000<met):=by omega
  clear hok1;rcases kV with h1|⟨h1,h2⟩
  all_goals
   first|(have d1:decide (met<1)=true:=decide_eq_true h1)|(have d1:decide (met<1)=false:=decide_eq_false h1)
   try first|(have d2:decide (1000<met)=true:=decide_eq_true h2)|(have d2:decide (1000<met)=false:=decide_eq_false h2)
   try clear h1
   try clear h2
   go_wp2_with (first|(go_at_call 62;(with_reducible refine (HK.o _ HB.o).mono ?_);rintro e w5 ⟨rfl,aR⟩;have bA:=aV HB aR;have fQ:=aa (HPX.o.below aR);clear aR;have k9:=fQ.o.2.2.2.2.2.2.2.2.2;simp only at k9)|(go_at_call 63;(with_reducible refine (HT.o _ bA.o).mono ?_);rintro e w6 ⟨rfl,cW⟩;have cQ:=aV bA cW;have kB:=aa (fQ.o.below cW);clear cW;obtain ⟨j0,j1,j2,j3,j4,j5,j6,j7,j8,j9⟩:=kB.o;simp only at j5));go_ret;exact ⟨aO HF.symm,cQ⟩
 case pos=>
 have amx:=aa hok1;have d1:decide (met<1)=false:=decide_eq_false (by omega);have d2:decide (1000<met)=false:=decide_eq_false (by omega);have Vb:1≤met:=hok1.1;have zi:met≤1000:=hok1.2;have MS:1≤TN∧TN≤1000:=by have h:=yg.o;unfold cF at h;simp only[Bool.and_eq_true,decide_eq_true_eq] at h;rw[Sy.o] at h;exact h.2
 have Es:KN≤5000:=by have h:=((fW _).1 JU).1.2.1;simp only at h;rw[HKN.o] at h;exact h
 clear hok1;obtain ⟨MS,Sz⟩:=MS;have e1:wrap64 (2*met)=2*met:=dK (by omega) (by omega);have e2:wrap64 (2+2*met)=2+2*met:=dK (by omega) (by omega);have e3:wrap64 (16*(TN:Int))=16*(TN:Int):=dK (by omega) (by omega);have e4:wrap64 (2+2*met+16*(TN:Int))=2+2*met+16*(TN:Int):=dK (by omega) (by omega);have HE:=aa (And.intro e1 (And.intro e2 (And.intro e3 e4)));clear e1 e2 e3 e4;have hkb:(KN:Int)≤9223372036854775807:=by omega
 have Ou:(TN:Int)≤9223372036854775807:=by omega
 have HT1:=aa MS;have HT2:=aa Sz;have sG:=aa (And.intro Vb zi);clear Es MS Sz Vb zi;go_upto_region 3 with (first|(go_at_call 62;(with_reducible refine (HK.o _ HB.o).mono ?_);rintro e w5 ⟨rfl,aR⟩;have bA:=aV HB aR;have fQ:=aa (HPX.o.below aR);clear aR;have k9:=fQ.o.2.2.2.2.2.2.2.2.2;simp only at k9)|(go_at_call 63;(with_reducible refine (HT.o _ bA.o).mono ?_);rintro e w6 ⟨rfl,cW⟩;have cQ:=aV bA cW;have kB:=aa (fQ.o.below cW);clear cW;obtain ⟨j0,j1,j2,j3,j4,j5,j6,j7,j8,j9⟩:=kB.o;simp only at j0 j5 j6 j7 j8 j9));clear d1 d2;obtain ⟨e1,e2,e3,e4⟩:=HE.o;by_cases hlen:(KN:Int)=2+2*met+16*TN
 case neg=>
  have HF:=aa (show r=false from oP (fun h=>hlen (by have:=h.2.2.2.2.2.1;exact this)));have dl:((KN:Int) != 2+2*met+16*(TN:Int))=true:=by simpa using hlen
  clear hlen;go_wp2_with fail;go_ret;exact ⟨aO HF.symm,cQ⟩
 case pos=>
  have rP:=aa hlen;have dl:((KN:Int) != 2+2*met+16*(TN:Int))=false:=by simpa using hlen
  clear hlen;go_upto_region 5 with fail;clear dl e1 e2 e3 e4;by_cases hok2:(1≤gen∧gen<1099511627776)∧(aD=0∨aD=1)
  case neg=>
   have HF:=aa (show r=false from oP (fun h=>hok2 ⟨h.2.2.2.1,h.2.2.2.2.1⟩));have kV:gen<1∨(¬gen<1∧1099511627776≤gen)∨(¬gen<1∧¬1099511627776≤gen∧aD<0)∨(¬gen<1∧¬1099511627776≤gen∧¬aD<0∧1<aD):=by omega
   clear hok2;rcases kV with h3|⟨h3,h4⟩|⟨h3,h4,h5⟩|⟨h3,h4,h5,h6⟩
   all_goals
    first|(have d3:decide (gen<1)=true:=decide_eq_true h3)|(have d3:decide (gen<1)=false:=decide_eq_false h3)
    try first|(have d4:decide (1099511627776≤gen)=true:=decide_eq_true h4)|(have d4:decide (1099511627776≤gen)=false:=decide_eq_false h4)
    try first|(have d5:decide (aD<0)=true:=decide_eq_true h5)|(have d5:decide (aD<0)=false:=decide_eq_false h5)
    try have d6:decide (1<aD)=true:=decide_eq_true h6
    try clear h3
    try clear h4
    try clear h5
    try clear h6
    go_wp2_with fail;go_ret;exact ⟨aO HF.symm,cQ⟩
  case pos=>
  have ag1:=aa hok2;have d3:decide (gen<1)=false:=decide_eq_false (by omega);have d4:decide (1099511627776≤gen)=false:=decide_eq_false (by omega);have d5:decide (aD<0)=false:=decide_eq_false (by omega);have d6:decide (1<aD)=false:=decide_eq_false (by omega);clear hok2;go_upto_region 7 with fail;clear d3 d4 d5 d6;have SA:=aa (HQ.o _ cQ);obtain ⟨q,hq⟩:=aG (cg av TN);have EX:=aa hq;clear hq;cases q with
  |none=>have HF:=aa (show r=false from oP (fun h=>by have:=h.2.2.2.2.2.2;rw[EX.o] at this;cases this));go_wp2_with (go_at_call 64;(with_reducible refine SA.o.mono ?_);rintro e w7 KS;unfold di at KS;rw[EX.o] at KS;obtain ⟨rfl,dO⟩:=KS;have fg:=aV cQ dO;clear dO);go_ret;exact ⟨aO HF.symm,fg⟩
  |some T=>
   have uy:=aa (yh EX);have HYX:=aa (show r=true↔tabs.map aQ=T from ⟨fun h=>by
    have:=(EW.1 h).2.2.2.2.2.2;rw[EX.o] at this;injection this with this;exact this.symm,fun h=>EW.2 ⟨trivial,trivial,amx,ag1.1,ag1.2,rP,by rw[EX.o,h]⟩⟩)
   have HOLD:=aa (show ∀(i:Nat) u,T[i]?=some u→∀x∈u,x.2.2.2=true from fun i u hu x hx=>Js EX u (List.mem_of_getElem? hu) x hx);go_upto_region 10 with (go_at_call 64;(with_reducible refine SA.o.mono ?_);rintro e w7 KS;unfold di at KS;rw[EX.o] at KS;obtain ⟨v7,rfl,MP,dO⟩:=KS;obtain ⟨p7,c7,rfl,ha1,ha2⟩:=jw MP;rw[uy.o];have ES:=aa MP;have fg:=aV cQ dO;have ly:=aa (kB.o.below dO);clear dO MP ha1 ha2);clear j0 j5 j6 j7 j8 j9;have k9:=ly.2.2.2.2.2.2.2.2.2;simp only at k9;go_wp2_with fail;clear k9;go_loopw [73,5,6] (fun i _ _ wr=>∃k:Nat,k≤TN∧i=.int .i64 k∧(∀(j:Nat) t u,j<k→tabs[j]?=some t→T[j]?=some u→aQ t=u)∧Bw w wr∧Bw w7 wr) (fun i _ _ _=>TN-(intOf i).toNat)
   case atStart=>exact ⟨0,dQ,rfl,fun j _ _ hj=>by omega,fg,aH⟩
   case round=>
    obtain ⟨k,hk,rfl,hall,hb,hb'⟩:=hrel;have ez:=aa hall;have gQ:=aa hb;have km:=aa hb';clear hall hb hb';by_cases hlt:k<TN
    case neg=>
     obtain rfl:k=TN:=by omega
     have HF:=aa (show r=true from HYX.2 (by
      apply List.ext_getElem (by rw[List.length_map,Sy.o,uy.o]);intro j h1 h2;rw[List.getElem_map];rw[List.length_map,Sy.o] at h1;exact ez j _ _ h1 (List.getElem?_eq_getElem (by rw[Sy.o];exact h1)) (List.getElem?_eq_getElem h2)))
     go_wp2_with fail;go_ret;exact ⟨aO HF.symm,gQ⟩
    case pos=>
     have fO:(k:Int)<(TN:Int):=(by omega);obtain ⟨t,ht⟩:=fy (l:=tabs) (k:=k) (by rw[Sy.o];exact hlt);obtain ⟨u,hu⟩:=fy (l:=T) (k:=k) (by rw[uy.o];exact hlt);obtain ⟨g,o,u1,e1,y1,y2⟩:=(mI HP.tabs) k _ ht;obtain ⟨g',o',u2,e2,z1,z2⟩:=(mI ES) k _ hu;subst e1;subst e2;obtain ⟨s1,rfl⟩:=y2.sl;obtain ⟨s2,rfl⟩:=z2.sl;unfold ik at *;have fL:=aa gQ.drew;have HST:=aa (show wr.drew.cell? ⟨g',o'+k,none⟩=_ from ae km.drew z1);have q0:=HST.o;have yw:=ae gQ y1;have ZE:=aa (y2.keep (af fL));have Dl:=aa (z2.keep (af km.drew));have JV:=aa (And.intro ht hu);have SB:=aa (show t.length≤1000 by
      have h:=yg.o;unfold cF at h;simp only[Bool.and_eq_true,List.all_eq_true] at h;have:=fY (h.1 t (List.mem_of_getElem? ht));omega)
     clear y1 y2 z1 z2 ht hu;obtain ⟨bq,yV⟩:∃b,sM (jn t) u=b:=⟨_,rfl⟩
     have vY:=aa yV;clear yV;go_upto_region 13 with fail;clear yw;go_region_held3 (fun w'=>w'.cell? ⟨g',o'+k,none⟩=some (.slice s2.1 s2.2.1 s2.2.2))
      (first|exact q0|exact gG.o|exact mA.o)
      (first|((with_reducible refine (Fy t SB.o _ _ ZE.o).mono ?_);rintro e w8 ⟨v8,rfl,ho,hb⟩;have HU8:=aa (fw ho);have ZF:=aa (Dl.o.keep (af hb));have yP:=aV fL hb;have ZG:=aa (ak km.o.drew hb);have gG:=aa (show _ from ae hb q0);clear hb ho)|((with_reducible refine (Mb (jn t) u _ _ _ HU8.o ZF.o).mono ?_);rintro e wa ⟨rfl,hb⟩;rw[vY.o];have jr:=aV yP hb;have ZH:=aV ZG hb;have mA:=aa (show _ from ae hb gG.o);clear hb))
     cases bq with
     |true=>
      have rR:=aa (show aQ t=u from (yH (ag0 k t JV.1) (HOLD k u JV.2)).1 vY);go_wp2_with fail;go_roundw
      case rel=>
       refine ⟨k+1,by omega,by go_num,fun j t' u' hj ht hu=>?_,jr.o,ZH.o⟩;by_cases e:j=k
       ·subst e;rw[JV.o.1] at ht;rw[JV.o.2] at hu;cases ht;cases hu;exact rR.o
       ·exact ez j t' u' (by omega) ht hu
      case measure=>simp[intOf];omega
     |false=>
      have hsm:¬aQ t=u:=fun h=>by have h2:=(yH (ag0 k t JV.1) (HOLD k u JV.2)).2 h;rw[vY.o] at h2;cases h2
      have HF:=aa (show r=false by
       rw[← Bool.not_eq_true,HYX.o];intro h;have h1:=congrArg (·[k]?) h;simp only[List.getElem?_map] at h1;rw[JV.o.1,JV.o.2] at h1;simp only[Option.map_some,Option.some.injEq] at h1;exact hsm h1)
      clear hsm;go_wp2_with fail;go_ret;exact ⟨aO HF.symm,jr⟩
end Go.Proofs.YtbigkioechkngaaGreat
