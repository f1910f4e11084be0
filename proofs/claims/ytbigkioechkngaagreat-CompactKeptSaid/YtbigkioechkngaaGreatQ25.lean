/- The proof, part 26. -/
import Derived.Test.YtbigkioechkngaaGreatQ24
set_option maxRecDepth 100000
set_option maxHeartbeats 8000000
namespace Go.Proofs.YtbigkioechkngaaGreat
open Go.RowKit
def Na (x:Int×Int):List Value:=[.int .i64 x.1,.int .i64 x.2,.slice none 0 0]
theorem WM (x:Int×Int):(Na x).length=3:=rfl
theorem Tj (n:Int) (w:World):Calls Tryz.prog 149 #[.int .i64 n] w fun e w'=>e=.returned (.bool (decide (1≤n∧n≤1000)))∧w=w':=by
 by_cases h0:1≤n
 ·have d0:decide (1≤n)=true:=decide_eq_true h0
  by_cases h1:n≤1000
  ·have HF:=aa (show decide (1≤n∧n≤1000)=true from decide_eq_true ⟨h0,h1⟩)
   have d1:decide (n≤1000)=true:=decide_eq_true h1;clear h0 h1;go_enter Tryz.func149,Tryz.ntmps149;go_wp2_with fail;go_ret;exact ⟨aO HF.symm,rfl⟩
  ·have HF:=aa (show decide (1≤n∧n≤1000)=false from decide_eq_false (fun h=>h1 h.2))
   have d1:decide (n≤1000)=false:=decide_eq_false h1;clear h0 h1;go_enter Tryz.func149,Tryz.ntmps149;go_wp2_with fail;go_ret;exact ⟨aO HF.symm,rfl⟩
 ·have d0:decide (1≤n)=false:=decide_eq_false h0
  have HF:=aa (show decide (1≤n∧n≤1000)=false from decide_eq_false (fun h=>h0 h.1));clear h0;go_enter Tryz.func149,Tryz.ntmps149;go_wp2_with fail;go_ret;exact ⟨aO HF.symm,rfl⟩
theorem Ll (n:Int) (h:0≤n∧n≤100000) (w:World):Calls Tryz.prog 150 #[.int .i64 n] w fun e w'=>e=.returned (.bool true)∧w=w':=by have d0:decide (0≤n)=true:=decide_eq_true h.1;have d1:decide (n≤100000)=true:=decide_eq_true h.2;clear h;go_enter Tryz.func150,Tryz.ntmps150;go_wp2_with fail;go_ret;exact ⟨rfl,rfl⟩
def qW (id:Int):Nat→List (Int×Int)→Int
 |_,[] => -1
 |i,x::l=>if x.1=id then (i:Int) else qW id (i+1) l
theorem Lm {l:List (Int×Int)} {k:Nat} {x:Int×Int} {id:Int} (h:l[k]?=some x):qW id k (l.drop k)=if x.1=id then (k:Int) else qW id (k+1) (l.drop (k+1)):=by rw[List.drop_eq_getElem_cons (List.getElem?_eq_some_iff.1 h).1,(List.getElem?_eq_some_iff.1 h).2];rfl
theorem A7 (l:List (Int×Int)) (id:Int) (v1:Value) (w:World) (h1:dx w v1 3 Na l):Calls Tryz.prog 148 #[v1,.int .i64 id] w fun e w'=>e=.returned (.int .i64 (qW id 0 l))∧Bw w w':=by
 obtain ⟨p,cp,rfl,a1,a2,_,ha⟩:=h1;have HA:=aa ha;obtain ⟨N,hN⟩:=aG l.length;rw[hN] at a1;rw[hN];have hlc:=fK (n:=N) a2;have HN:=aa hN;clear ha hN a1 a2;obtain ⟨r,hr⟩:=aG (qW id 0 l);rw[hr];have HR:=aa hr;clear hr;go_enter Tryz.func148,Tryz.ntmps148;go_wp2_with fail;go_loopw [5] (fun i wr=>∃k:Nat,k≤N∧i=.int .i64 k∧qW id k (l.drop k)=r∧Bw w wr) (fun i _=>N-(intOf i).toNat)
 case atStart=>exact ⟨0,dQ,rfl,by rw[List.drop_zero];exact HR,aH⟩
 case round=>
  obtain ⟨k,hk,rfl,hall,hb⟩:=hrel;have ez:=aa hall;have HB:=aa hb;clear hall hb;by_cases hlt:k<N
  case neg=>
   obtain rfl:k=N:=by omega
   have HF:=aa (show r = -1 by rw[← ez.o,List.drop_of_length_le (by rw[HN.o];exact aT)];rfl);go_wp2_with fail;go_ret;exact ⟨kP HF.symm,HB⟩
  case pos=>
   have fO:(k:Int)<(N:Int):=(by omega);obtain ⟨⟨x,y⟩,hs⟩:∃s,l[k]?=some s:=⟨_,List.getElem?_eq_getElem (by rw[HN.o];omega)⟩
   obtain ⟨g,o,rfl,x1⟩:=HA.o k _ hs;have r0:=ae HB (x1 0 _ rfl);simp only[Nat.add_zero] at r0;have fS:=aa (Lm (id:=id) hs);clear hs x1;by_cases he:x=id
   ·have hd:(x==id)=true:=by simpa using he
    have HF:=aa (show r=(k:Int) by rw[← ez.o,fS.o,if_pos he]);clear he;go_wp2_with fail;go_ret;exact ⟨kP HF.symm,HB⟩
   ·have hd:(x==id)=false:=by simpa using he
    have HF:=aa (show qW id (k+1) (l.drop (k+1))=r by rw[← ez.o,fS.o,if_neg he]);clear he;go_wp2_with fail;go_roundw
    case rel=>exact ⟨k+1,by omega,by go_num,HF.o,HB.o⟩
    case measure=>simp[intOf];omega
theorem O9 (l:List (Int×Int)) (x:J1) (v1:Value) (w:World) (h1:dx w v1 3 Na l) (ha:x.act=0) (hi:1≤x.FR∧x.FR≤1000) (hn:0≤x.n∧x.n≤100000) (hf:qW x.FR 0 l = -1) (hl:l.length<64):Calls Tryz.prog 106 #[v1,.agg x.cells.toArray] w fun e w'=>e=.returned (.int .i64 0)∧Bw w w':=by have KD:=aa (fun (W:World) (hb:Bw w W)=>A7 l x.FR v1 W (h1.keep (af hb)));rw[hf] at KD;have HID:=aa (fun W=>Tj x.FR W);rw[decide_eq_true hi] at HID;have ZK:=aa (fun W=>Ll x.n hn W);obtain ⟨p,cp,rfl,_,_,_,_⟩:=h1;obtain ⟨xa,xv,xd,xb,xn,xt⟩:=x;simp only at ha KD HID ZK;subst ha;unfold J1.cells;simp only;obtain ⟨N,hN⟩:=aG l.length;rw[hN] at hl KD ⊢;have hlc:decide (64≤(N:Int))=false:=decide_eq_false (by omega);have aaA:decide (64≤N)=false:=decide_eq_false (by omega);clear hi hn hf hN hl;obtain ⟨W1,hW1⟩:=aG (w.alloc (.cells #[.int .i64 0,.int .i64 xv,.int .i64 xd,.int .i64 xb,.int .i64 xn,.string xt] 111));have aU:=aa (show aJ W1 w.heap.size [.int .i64 0,.int .i64 xv,.int .i64 xd,.int .i64 xb,.int .i64 xn,.string xt] by rw[← hW1];exact aJ.new w _ _);have aZ:=aa (show Bw w W1 by rw[← hW1];exact aq);have ed:=aa hW1;clear hW1;go_enter Tryz.func106,Tryz.ntmps106;go_upto_region 1 with fail;rw[ed.o];clear ed;have c1:=aU.cell (j:=1) rfl;go_wp2_with (first|(go_at_call 148;(with_reducible refine (KD.o _ aZ.o).mono ?_);rintro e w2 ⟨rfl,hb⟩;have bU:=aV aZ hb;have dY:=aa (aU.o.below hb);clear hb;have d0:=dY.o.cell (j:=0) rfl;have d1:=dY.o.cell (j:=1) rfl;have d4:=dY.o.cell (j:=4) rfl)|(go_at_call 149;(with_reducible refine (HID.o _).mono ?_);rintro e w3 ⟨rfl,rfl⟩)|(go_at_call 150;(with_reducible refine (ZK.o _).mono ?_);rintro e w3 ⟨rfl,rfl⟩));go_ret;exact ⟨rfl,bU⟩
theorem Pa (l:List (Int×Int)) (x:J1) (k:Nat) (s:Int×Int) (v1:Value) (w:World) (h1:dx w v1 3 Na l) (ha:x.act=4) (ht:x.text.size=256) (hf:qW x.FR 0 l=k) (hs:l[k]?=some s) (hb0:0≤x.block∧x.block<s.2):Calls Tryz.prog 106 #[v1,.agg x.cells.toArray] w fun e w'=>e=.returned (.int .i64 0)∧Bw w w':=by
 have KD:=aa (fun (W:World) (hb:Bw w W)=>A7 l x.FR v1 W (h1.keep (af hb)));rw[hf] at KD;obtain ⟨p,cp,rfl,a1,a2,_,hc⟩:=h1;obtain ⟨g,o,rfl,x1⟩:=hc k s hs;have hk:=(List.getElem?_eq_some_iff.1 hs).1;have x2:=x1 1 _ rfl;obtain ⟨xa,xv,xd,xb,xn,xt⟩:=x;simp only at ha KD ht hb0;subst ha;unfold J1.cells;simp only;obtain ⟨N,hN⟩:=aG l.length;rw[hN] at hk KD a1 ⊢;obtain ⟨S,hS⟩:=aG s.2;rw[hS] at x2 hb0;have fO:(k:Int)<(N:Int):=by omega
 have Np:(0:Int)≤(k:Int):=by omega
 have hlc:=fK (n:=N) a2;have e0:decide ((k:Int)<0)=false:=decide_eq_false (by omega);have e1:decide (xb<0)=false:=decide_eq_false (by omega);have e2:decide (S≤xb)=false:=decide_eq_false (by omega);have e3:((xt.size:Int) != 256)=false:=by simp;omega
 have e4:(xt.size != 256)=false:=by simp[ht]
 have e5:(xt.size:Int)≤9223372036854775807:=by omega
 clear hf hN hS hs x1 hc a1 a2 ht hb0 hk;obtain ⟨W1,hW1⟩:=aG (w.alloc (.cells #[.int .i64 4,.int .i64 xv,.int .i64 xd,.int .i64 xb,.int .i64 xn,.string xt] 111));have aU:=aa (show aJ W1 w.heap.size [.int .i64 4,.int .i64 xv,.int .i64 xd,.int .i64 xb,.int .i64 xn,.string xt] by rw[← hW1];exact aJ.new w _ _);have aZ:=aa (show Bw w W1 by rw[← hW1];exact aq);have ed:=aa hW1;have dY:=aa x2;clear hW1 x2;go_enter Tryz.func106,Tryz.ntmps106;go_upto_region 1 with fail;rw[ed.o];clear ed;have c1:=aU.cell (j:=1) rfl;go_wp2_with (go_at_call 148;(with_reducible refine (KD.o _ aZ.o).mono ?_);rintro e w2 ⟨rfl,hb⟩;have bU:=aV aZ hb;have kK:=aa (aU.o.below hb);have r1:=ae (ak aZ.o hb) dY.o;clear hb;have d0:=kK.o.cell (j:=0) rfl;have d3:=kK.o.cell (j:=3) rfl;have d5:=kK.o.cell (j:=5) rfl);go_ret;exact ⟨rfl,bU⟩
theorem aaB:(Tryz.prog.info? 97).map (fun i=>(i.zero,i.size,i.bytes))=some (some (.agg #[.int .i64 0,.int .i64 0,.slice none 0 0]),3,40):=by kernel_rfl
theorem Pb (W:World) (B n:Nat) (v:Value) (l:List (Int×Int)) (x:Int×Int) (hown:W.ownsRow B 97 3 v n (bn Na l)) (hn:n≤100000000) (hB:B≤W.heap.size) :
 ∃g cap w2,(Builtin.append_ #[40,40] 40 #[v,.slice (some ⟨W.heap.size,0,none⟩) 1 1]).run Tryz.prog (W.alloc (.cells #[.int .i64 x.1,.int .i64 x.2,.slice none 0 0] 97))=.ok (.slice (some ⟨g,0,none⟩) (n+1) cap) w2∧w2.ownsRow B 97 3 (.slice (some ⟨g,0,none⟩) (n+1) cap) (n+1) (bn Na (l++[x]))∧Below B W w2∧W.grownBy w2 v.ownBlock:=by
 obtain ⟨i0,iP,hz0,hz1,hz2⟩:=info_parts aaB;obtain ⟨g,cap,w2,h1,h2⟩:=eY 40 97 i0 _ 3 40 Tryz.underlying40 iP hz0 hz1 hz2 rfl (by decide) (by decide) W B n v (bn Na l) (Na x) hown rfl (by intro u hu;unfold Na at hu;simp only[List.mem_cons,List.not_mem_nil,or_false] at hu;rcases hu with rfl|rfl|rfl <;> rfl) hn hB;exact ⟨g,cap,w2,h1,by rw[← fF];exact h2.row,h2.below,h2.grown⟩
def jd (l:List dy):List (Int×Int):=l.map fun d=>(d.id,d.size)
theorem IW {l:List dy} {k:Nat} {d:dy} (h:l[k]?=some d):jd (l.take (k+1))=jd (l.take k)++[(d.id,d.size)]:=by unfold jd;rw[List.take_add_one,h,Option.toList_some,List.map_append];rfl
theorem yy (p:bX) (v:PV) (w:World) (h:bh w p v) (hl:p.av.length≤1000):Calls Tryz.prog 107 #[dZ p v] w fun e w'=>∃v',e=.returned v'∧dx w' v' 3 Na (jd p.av)∧Bw w w':=by
 obtain ⟨pk,nk,ck,pc,nc,cc,pp,np,cp,pv,nv,cv,pt,nt,ct,rfl⟩:=h.sl;obtain ⟨p5,c5,e1,a1,a2,ha⟩:=h.av;injection e1 with e1 e2 e3;subst e1;subst e2;subst e3;have HA:=aa ha;clear h ha;obtain ⟨⟨kept,cache,ah,keep,dead⟩,met,gen,aD,av,tabs⟩:=p;unfold dZ;simp only at HA hl a1 ⊢;obtain ⟨N,hN⟩:=aG av.length;have HN:=aa hN;rw[hN] at hl a1 ⊢;have hlc:(N:Int)≤9223372036854775807:=by omega
 clear hN a1 a2;obtain ⟨W1,hW1⟩:=aG (w.alloc (.cells #[.slice pk nk ck,.slice pc nc cc,.int .i64 ah,.slice pp np cp,.bool dead,.int .i64 met,.int .i64 gen,.int .i64 aD,.slice pv N cv,.slice pt nt ct] 30));have aU:=aa (show aJ W1 w.heap.size [.slice pk nk ck,.slice pc nc cc,.int .i64 ah,.slice pp np cp,.bool dead,.int .i64 met,.int .i64 gen,.int .i64 aD,.slice pv N cv,.slice pt nt ct] by rw[← hW1];exact aJ.new w _ _);have aZ:=aa (show Bw w W1 by rw[← hW1];exact aq);have ed:=aa hW1;clear hW1;go_enter Tryz.func107,Tryz.ntmps107;go_upto_region 1 with fail;rw[ed.o];clear ed;go_wp2_with fail;go_loopw [3,4] (fun o i wr=>∃(k:Nat) (po:Option Addr) (co:Nat),k≤N∧i=.int .i64 k∧o=.slice po k co∧wr.ownsRow (w.heap.size+1) 97 3 o k (bn Na (jd (av.take k)))∧aJ wr w.heap.size [.slice pk nk ck,.slice pc nc cc,.int .i64 ah,.slice pp np cp,.bool dead,.int .i64 met,.int .i64 gen,.int .i64 aD,.slice pv N cv,.slice pt nt ct]∧Bw w wr) (fun _ i _=>N-(intOf i).toNat)
 case atStart=>have hlt:=aU.lt;exact ⟨0,_,_,dQ,rfl,rfl,World.ownsRow_made W1 #[] 0 (by omega) (by unfold maxLen;omega) rfl,aU.alloc _,aZ.alloc aZ.size _⟩
 case round=>
  obtain ⟨k,po,co,hk,rfl,rfl,hrow,hx,hb⟩:=hrel;have bY:=aa hrow;have HX:=aa hx;have HB:=aa hb;have c8:=hx.cell (j:=8) rfl;clear hrow hx hb;by_cases hlt:k<N
  case neg=>
   obtain rfl:k=N:=by omega
   have kQ:=aa (show av.take k=av from List.take_of_length_le (by rw[HN.o];exact aT));go_wp2_with fail;go_ret;have h:=bY.o;rw[kQ.o] at h;exact ⟨_,rfl,kz WM (by unfold jd;rw[List.length_map];exact HN) h,HB⟩
  case pos=>
   have fO:(k:Int)<(N:Int):=(by omega);have Np:(0:Int)≤(k:Int):=by omega
   obtain ⟨d,hd⟩:=fy (l:=av) (k:=k) (by rw[HN.o];exact hlt);obtain ⟨i1,i2,g,o,ta,tb,tc,rfl,x0,x1,_⟩:=HA.o k d hd;have fS:=aa (IW hd);have kR:=aa (show wr.drew.cell? ⟨w.heap.size,8,none⟩=some (.slice (some ⟨g,o,none⟩) N cv)∧wr.drew.cell? ⟨g,o+k*5,none⟩=some (.int .i64 d.id)∧wr.drew.cell? ⟨g,o+k*5+1,none⟩=some (.int .i64 d.size) from ⟨ae aH.drew c8,ae HB.drew x0,ae HB.drew x1⟩);have hlx:=HX.lt;obtain ⟨g2,Tk,w2,hrun,hrow2,hb2,hg2⟩:=Pb wr.drew (w.heap.size+1) k _ (jd (av.take k)) (d.id,d.size) (aM bY aH.drew) (by omega) (by show w.heap.size+1≤wr.heap.size;omega);simp only at hrun;have dM:=aa hrun;have nB:=aa (show w2.ownsRow (w.heap.size+1) 97 3 (.slice (some ⟨g2,0,none⟩) (k+1) Tk) (k+1) (bn Na (jd (av.take (k+1)))) by rw[fS.o];exact hrow2);have dY:=aa (show aJ w2 w.heap.size _ from HX.drew.grown hg2 (fun e=>by have:=bY.lt _ e.symm;omega));have bU:=aa (show Bw w w2 from HB.drew.trans (hb2.mono (by omega)));have Lp:=aa (show w2.cell? ⟨w.heap.size,8,none⟩=some (.slice (some ⟨g,o,none⟩) N cv)∧w2.cell? ⟨g,o+k*5,none⟩=some (.int .i64 d.id)∧w2.cell? ⟨g,o+k*5+1,none⟩=some (.int .i64 d.size) from ⟨dY.cell (j:=8) rfl,ae bU x0,ae bU x1⟩);have gG:=aa (show (wr.drew.alloc (.cells #[.int .i64 d.id,.int .i64 d.size,.slice none 0 0] 97)).cell? ⟨w.heap.size,8,none⟩=some (.slice (some ⟨g,o,none⟩) N cv)∧(wr.drew.alloc (.cells #[.int .i64 d.id,.int .i64 d.size,.slice none 0 0] 97)).cell? ⟨g,o+k*5,none⟩=some (.int .i64 d.id)∧(wr.drew.alloc (.cells #[.int .i64 d.id,.int .i64 d.size,.slice none 0 0] 97)).cell? ⟨g,o+k*5+1,none⟩=some (.int .i64 d.size) from ⟨ae (aq) kR.1,ae (aq) kR.2.1,ae (aq) kR.2.2⟩);clear hrun hrow2 hb2 hg2 x0 x1 i1 i2 hd;go_upto_region 5 with fail;go_region_held3 (fun w'=>w'.cell? ⟨w.heap.size,8,none⟩=some (.slice (some ⟨g,o,none⟩) N cv)∧w'.cell? ⟨g,o+k*5,none⟩=some (.int .i64 d.id)∧w'.cell? ⟨g,o+k*5+1,none⟩=some (.int .i64 d.size))
    (first|exact kR.o|exact gG.o|exact Lp.o)
    (first|(refine bE rfl _ _ _ rfl rfl rfl dM.o ?_))
   go_wp2_with fail;go_roundw
   case rel=>exact ⟨k+1,_,_,by omega,by go_num,rfl,nB.o,dY.o,bU.o⟩
   case measure=>simp[intOf];omega
theorem A8 (x:List dy) (q:Int) (v1:Value) (w:World) (F:Nat→Prop) (h1:eU (mask F w) v1 x):Calls Tryz.prog 108 #[v1,.int .i64 q] w fun e w'=>∃v,e=.returned (.tuple #[v,.bool (findD x q).2])∧vK (mask F w') v (findD x q).1∧Bw w w':=by
 obtain ⟨p,cp,rfl,a1,a2,ha⟩:=h1;have HA:=aa ha;obtain ⟨N,hN⟩:=aG x.length;rw[hN] at a1;rw[hN];have hlc:=fK (n:=N) a2;have HN:=aa hN;clear ha hN a1 a2;go_enter Tryz.func108,Tryz.ntmps108;go_wp2_with fail;have kI:=aa (show Bw w (w.alloc (.cells #[.int .i64 0,.int .i64 0,.slice none 0 0,.slice none 0 0,.slice none 0 0] 75)) from aq);go_loop [6] (fun i=>∃k:Nat,k≤N∧i=.int .i64 k∧findD x q=findD (x.drop k) q) (fun i=>N-(intOf i).toNat)
 case atStart=>exact ⟨0,dQ,rfl,by rw[List.drop_zero]⟩
 case round=>
  obtain ⟨k,hk,rfl,hall⟩:=hrel;have ez:=aa hall;clear hall;by_cases hlt:k<N
  case neg=>
   obtain rfl:k=N:=by omega
   have HF:=aa (show findD x q=(zeroV,false) by rw[ez.o,List.drop_of_length_le (by rw[HN.o];omega)];rfl);go_wp2_with fail;refine bodyPost_ret (v:=.tuple #[.agg #[.int .i64 0,.int .i64 0,.slice none 0 0,.slice none 0 0,.slice none 0 0],.bool false]) (by simp[results,Tryz.results108,go_sem]) rfl ?_;refine ⟨_,by rw[HF.o],by rw[HF.o];exact Gs _,kI⟩
  have fO:(k:Int)<(N:Int):=by omega
  obtain ⟨s,hs⟩:=fy (l:=x) (k:=k) (by rw[HN.o];omega);obtain ⟨i1,i2,g,o,a,b,c,rfl,m0,m1,m2,m3,m4,e5⟩:=HA.o k s hs;have e0:=dh _ _ m0;have e1:=dh _ _ m1;have e2:=dh _ _ m2;have e3:=dh _ _ m3;have e4:=dh _ _ m4;obtain ⟨pa,na,ca,pb,nb,cb,pc,nc,cc,rfl,rfl,rfl⟩:=bc e5;have r0:=ae kI e0;have r1:=ae kI e1;have r2:=ae kI e2;have r3:=ae kI e3;have r4:=ae kI e4;have hg:=World.block_lt_of_cell? _ _ e0;have hd:x.drop k=s::x.drop (k+1):=by obtain ⟨hk2,hx⟩:=List.getElem?_eq_some_iff.1 hs;rw[List.drop_eq_getElem_cons hk2,hx]
  have HD:=aa hd;have HE:=aa (And.intro i1 (And.intro i2 e5));clear hs hd e5 i1 i2 m0 m1 m2 m3 m4;by_cases Ex:s.id=q
  ·have hb:(s.id==q)=true:=by simpa using Ex
   have HF:=aa (show findD x q=(s,true) by rw[ez.o,HD.o];unfold findD;rw[List.find?_cons_of_pos (p:=fun d:dy=>d.id==q) hb]);clear Ex;go_wp2_with fail;have XS:=(Below.refl w.heap.size w).alloc aT (.cells #[.int .i64 s.id,.int .i64 s.size,.slice pa na ca,.slice pb nb cb,.slice pc nc cc] 75);refine bodyPost_ret (v:=.tuple #[.agg #[.int .i64 s.id,.int .i64 s.size,.slice pa na ca,.slice pb nb cb,.slice pc nc cc],.bool true]) (by simp[results,Tryz.results108,go_sem]) rfl ?_;exact ⟨_,by rw[HF.o],by rw[HF.o];exact ⟨_,_,_,rfl,HE.1,HE.2.1,HE.2.2.keep (aC XS (fun _ _ h=>h))⟩,XS⟩
  ·have hb:(s.id==q)=false:=by simpa using Ex
   have HF:=aa (show findD x q=findD (x.drop (k+1)) q by rw[ez.o,HD.o];unfold findD;rw[List.find?_cons_of_neg (p:=fun d:dy=>d.id==q) (by simpa using Ex)]);clear Ex;go_wp2_with fail;go_round
   case rel=>exact ⟨k+1,by omega,by go_num,HF.o⟩
   case measure=>simp[intOf];omega
theorem Pc (W:World):ee W (.slice none 0 0) []:=⟨none,0,rfl,aT,by unfold maxLen;omega,fun i x hx=>by simp at hx⟩
theorem DC {W:World} {a b:Nat} {a0 a1 a2 a3 a4 a5 a6 a7 a8 a9 b0 b1 b2 b3 b4 b5:Value} (h1:aJ W a [a0,a1,a2,a3,a4,a5,a6,a7,a8,a9]) (h2:aJ W b [b0,b1,b2,b3,b4,b5]):W.cell? ⟨a,0,none⟩=some a0∧W.cell? ⟨a,1,none⟩=some a1∧W.cell? ⟨a,2,none⟩=some a2∧W.cell? ⟨a,3,none⟩=some a3∧W.cell? ⟨a,4,none⟩=some a4∧W.cell? ⟨a,5,none⟩=some a5∧W.cell? ⟨a,6,none⟩=some a6∧W.cell? ⟨a,7,none⟩=some a7∧W.cell? ⟨a,8,none⟩=some a8∧W.cell? ⟨a,9,none⟩=some a9∧W.cell? ⟨b,0,none⟩=some b0∧W.cell? ⟨b,1,none⟩=some b1∧W.cell? ⟨b,2,none⟩=some b2∧W.cell? ⟨b,3,none⟩=some b3∧W.cell? ⟨b,4,none⟩=some b4∧W.cell? ⟨b,5,none⟩=some b5:=by obtain ⟨x0,x1,x2,x3,x4,x5,x6,x7,x8,x9⟩:=h1.ten;exact ⟨x0,x1,x2,x3,x4,x5,x6,x7,x8,x9,h2.cell rfl,h2.cell rfl,h2.cell rfl,h2.cell rfl,h2.cell rfl,h2.cell rfl⟩
theorem WN (w:World) (c1 c2 c3 c4:List Value) (T1 T2 T3 T4:TypeId):aJ ((((w.alloc (.cells c1.toArray T1)).alloc (.cells c2.toArray T2)).alloc (.cells c3.toArray T3)).alloc (.cells c4.toArray T4)) w.heap.size c1∧aJ ((((w.alloc (.cells c1.toArray T1)).alloc (.cells c2.toArray T2)).alloc (.cells c3.toArray T3)).alloc (.cells c4.toArray T4)) (w.heap.size+1) c2∧aJ ((((w.alloc (.cells c1.toArray T1)).alloc (.cells c2.toArray T2)).alloc (.cells c3.toArray T3)).alloc (.cells c4.toArray T4)) (w.heap.size+1+1) c3∧aJ ((((w.alloc (.cells c1.toArray T1)).alloc (.cells c2.toArray T2)).alloc (.cells c3.toArray T3)).alloc (.cells c4.toArray T4)) (w.heap.size+1+1+1) c4∧Bw w ((((w.alloc (.cells c1.toArray T1)).alloc (.cells c2.toArray T2)).alloc (.cells c3.toArray T3)).alloc (.cells c4.toArray T4)):=by obtain ⟨h1,h2,h3,h4⟩:=Ov w c1 c2 c3 T1 T2 T3;refine ⟨h1.alloc _,h2.alloc _,h3.alloc _,?_,h4.alloc (by simp;omega) _⟩;have:=aJ.new (((w.alloc (.cells c1.toArray T1)).alloc (.cells c2.toArray T2)).alloc (.cells c3.toArray T3)) c4 T4;rw[World.size_alloc,World.size_alloc,World.size_alloc] at this;exact this
theorem E5 (p:bX) (v:PV) (x:J1) (w:World) (F:Nat→Prop) (hF:∀q,w.heap.size≤q→F q) (h:bh (mask F w) p v) (ls:bO p.av) (tH:cA p=true) (IX:p.disk.dead=false) (Lq:x.act=0) (hi:1≤x.FR∧x.FR≤1000) (hn:0≤x.n∧x.n≤100000) (hf:qW x.FR 0 (jd p.av) = -1) (hl:p.av.length<64) :
 Calls Tryz.prog 61 #[dZ p v,.agg x.cells.toArray] w (fun e w'=>∃t,Grown [] t∧u6 F w {p with av:=fo p.av ⟨x.FR,x.n,t⟩} [WJ 0 eB 0] e w'):=by
 have YH:=(bF.1 tH).2.2.1;have aaC:p.av.length≤64:=by
  have h1:=(bF.1 tH).2.2.2.2.2.2;unfold cg at h1
  split at h1
  ·rename_i h2;exact rQ h2.2.2
  ·cases h1
 have dS:=aa (fun (W:World) (hb:Bw w W)=>kC p v W ((h.keep dh).keep (af hb)) ls);rw[tH] at dS;have mW:=aa (fun (W:World) (hb:Bw w W)=>yy p v W ((h.keep dh).keep (af hb)) (by omega));have AP:=aa (fun (v1:Value) (W:World) (h1:dx W v1 3 Na (jd p.av))=>O9 (jd p.av) x v1 W h1 Lq hi hn hf (by unfold jd;rw[List.length_map];exact hl));have Ld:=aa (fun (W:World) (hb:Bw w W)=>A8 p.av x.FR v.v W (FW F w.heap.size 4) (h.av.keep (oI hb)));have IY:=aa (fun (W:World) (hb:Bw w W) (hs:w.heap.size+4≤W.heap.size)=>yo p v x.FR x.n [] (.slice none 0 0) W (FW F w.heap.size 4) (fun q hq=>⟨hF q (by omega),.inr (by omega)⟩) (h.keep (oI hb)) (Pc W) (by simp) (fun y hy=>by simp at hy) ls (by unfold aP;omega) (by unfold aP;omega));have ya:=aa hF;obtain ⟨pk,nk,ck,pc,nc,cc,pp,np,cp,pv,nv,cv,pt,nt,ct,rfl⟩:=h.sl;clear h ls tH YH aaC hF hi hn hf hl;obtain ⟨⟨kept,cache,ah,keep,dead⟩,met,gen,aD,av,tabs⟩:=p;obtain ⟨xa,xv,xd,xb,xn,xt⟩:=x;simp only at IX Lq;subst IX;subst Lq;unfold J1.cells dZ at *;simp only at dS mW AP Ld IY ⊢;obtain ⟨W1,hW1⟩:=aG ((((w.alloc (.cells #[.slice pk nk ck,.slice pc nc cc,.int .i64 ah,.slice pp np cp,.bool false,.int .i64 met,.int .i64 gen,.int .i64 aD,.slice pv nv cv,.slice pt nt ct] 30)).alloc (.cells #[.int .i64 0,.int .i64 xv,.int .i64 xd,.int .i64 xb,.int .i64 xn,.string xt] 111)).alloc (.cells #[.slice none 0 0,.slice none 0 0,.int .i64 0,.slice none 0 0,.bool false,.int .i64 0,.int .i64 0,.int .i64 0,.slice none 0 0,.slice none 0 0] 30)).alloc (.cells #[.int .i64 0,.string ⟨#[]⟩,.int .i64 0] 107));have aU:=aa (WN w [.slice pk nk ck,.slice pc nc cc,.int .i64 ah,.slice pp np cp,.bool false,.int .i64 met,.int .i64 gen,.int .i64 aD,.slice pv nv cv,.slice pt nt ct] [.int .i64 0,.int .i64 xv,.int .i64 xd,.int .i64 xb,.int .i64 xn,.string xt] [.slice none 0 0,.slice none 0 0,.int .i64 0,.slice none 0 0,.bool false,.int .i64 0,.int .i64 0,.int .i64 0,.slice none 0 0,.slice none 0 0] [.int .i64 0,.string ⟨#[]⟩,.int .i64 0] 30 111 30 107);rw[hW1] at aU;have ed:=aa hW1;clear hW1;go_enter Tryz.func61,Tryz.ntmps61;go_upto_region 1 with fail;rw[ed.o];clear ed;obtain ⟨a0,a1,a2,a3,a4,a5,a6,a7,a8,a9⟩:=aU.1.ten;go_upto_region 5 with (go_at_call 15;(with_reducible refine (dS.o _ aU.o.2.2.2.2).mono ?_);(rintro e w2 ⟨rfl,hb⟩);(have bU:=aa (ak aU.o.2.2.2.2 hb));(have pT:=aa (aU.o.1.below hb));(have nM:=aa (aU.o.2.1.below hb));(have ym:=aa (aU.o.2.2.1.below hb));(have FT:=aa (aU.o.2.2.2.1.below hb));(clear hb);(have b4:=pT.o.cell (j:=4) rfl));clear a0 a1 a2 a3 a4 a5 a6 a7 a8 a9 b4;have fL:=aa (show Bw w w2.drew from bU.drew);have VY:=aa (DC pT.drew nM.drew)
 go_region_held3 (fun w'=>w'.cell? ⟨w.heap.size,0,none⟩=some (.slice pk nk ck)∧w'.cell? ⟨w.heap.size,1,none⟩=some (.slice pc nc cc)∧w'.cell? ⟨w.heap.size,2,none⟩=some (.int .i64 ah)∧w'.cell? ⟨w.heap.size,3,none⟩=some (.slice pp np cp)∧w'.cell? ⟨w.heap.size,4,none⟩=some (.bool false)∧w'.cell? ⟨w.heap.size,5,none⟩=some (.int .i64 met)∧w'.cell? ⟨w.heap.size,6,none⟩=some (.int .i64 gen)∧w'.cell? ⟨w.heap.size,7,none⟩=some (.int .i64 aD)∧w'.cell? ⟨w.heap.size,8,none⟩=some (.slice pv nv cv)∧w'.cell? ⟨w.heap.size,9,none⟩=some (.slice pt nt ct)∧w'.cell? ⟨w.heap.size+1,0,none⟩=some (.int .i64 0)∧w'.cell? ⟨w.heap.size+1,1,none⟩=some (.int .i64 xv)∧w'.cell? ⟨w.heap.size+1,2,none⟩=some (.int .i64 xd)∧w'.cell? ⟨w.heap.size+1,3,none⟩=some (.int .i64 xb)∧w'.cell? ⟨w.heap.size+1,4,none⟩=some (.int .i64 xn)∧w'.cell? ⟨w.heap.size+1,5,none⟩=some (.string xt))
  (first|exact VY.o|exact gG.o|exact mA.o)
  (first|((with_reducible refine (mW.o _ fL.o).mono ?_);(rintro e w3 ⟨v3,rfl,hr3,hb⟩);(obtain ⟨p3,c3,rfl,_,_⟩:=hr3.slice);(have uz:=aa hr3);(have dG:=aV fL hb);(have yn:=aa (pT.o.drew.below hb));(have qD:=aa (nM.o.drew.below hb));(have sK:=aa (ym.o.drew.below hb));(have Tf:=aa (FT.o.drew.below hb));(have gG:=aa (DC yn.o qD.o));(clear hb hr3))|((with_reducible refine (AP.o _ _ uz.o).mono ?_);(rintro e w4 ⟨rfl,hb⟩);(have gz:=aV dG hb);(have JW:=aa (yn.o.below hb));(have pP:=aa (qD.o.below hb));(have qq:=aa (sK.o.below hb));(have HA4:=aa (Tf.o.below hb));(have mA:=aa (DC JW.o pP.o));(clear hb)))
 have c8:=JW.cell (j:=8) rfl;have o0:=pP.cell (j:=0) rfl;have o1:=pP.cell (j:=1) rfl;go_upto_region 11 with (go_at_call 108;(with_reducible refine (Ld.o _ gz.o).mono ?_);(rintro e w6 ⟨v6,rfl,hv6,hb⟩);(obtain ⟨ta,tb,tc,rfl,Pd,pX,qj⟩:=hv6);(obtain ⟨qa,na,ka,qb,nb,kb,qc,KX,kc,rfl,rfl,rfl⟩:=bc qj);(have yR:=aa qj);(have HI:=aa (And.intro Pd pX));(have cQ:=aV gz hb);(have WE:=aa (JW.o.below hb));(have FL:=aa (pP.o.below hb));(have Hz:=aa (qq.o.below hb));(have HA6:=aa (HA4.o.below hb));(clear hb Pd pX qj));clear c8 o0 o1;obtain ⟨W7,zn⟩:=aG (w6.alloc (.cells #[.int .i64 (findD av xv).1.id,.int .i64 (findD av xv).1.size,.slice qa na ka,.slice qb nb kb,.slice qc KX kc] 75));have dO:Bw w6 W7:=by rw[← zn];exact aq
 have HV7:=aa (show aJ W7 w6.heap.size [.int .i64 (findD av xv).1.id,.int .i64 (findD av xv).1.size,.slice qa na ka,.slice qb nb kb,.slice qc KX kc] by rw[← zn];exact aJ.new w6 _ _);have HN7:=aa (yR.keep (aC dO (fun _ _ h=>h)));have fg:=aV cQ dO;have Wl:=aa (WE.below dO);have pY:=aa (FL.below dO);have E0:=aa (Hz.below dO);have HA7:=aa (HA6.below dO);rw[zn];clear zn dO;have hS7:w.heap.size+4≤W7.heap.size:=by have:=HA7.lt;omega
 obtain ⟨a0,a1,a2,a3,a4,a5,a6,a7,a8,a9⟩:=Wl.ten;have o0:=pY.cell (j:=0) rfl;have o1:=pY.cell (j:=1) rfl;have o2:=pY.cell (j:=2) rfl;have o3:=pY.cell (j:=3) rfl;have o4:=pY.cell (j:=4) rfl;have o5:=pY.cell (j:=5) rfl;obtain ⟨v0,v1,v2,v3,v4⟩:=HV7.five;have HL7:=aa (IY.o W7 fg hS7);unfold dZ at *;go_wp2_with (go_at_call 109;(with_reducible refine HL7.o.mono ?_);(rintro e w5 ⟨t,hg,v5,rfl,Cc,hb⟩);(have HG:=aa hg);(have zt:=aa Cc);(obtain ⟨IA,IB,IC,ID,IE,IG,IH,II,IJ,IK,IL,IM,IP,IQ,IU,rfl⟩:=Cc.sl);(unfold dZ at *);(simp only at zt ⊢);(have bA:=aV fg hb);(have si:=aa (E0.o.below hb));(have zk:=aa (HA7.o.below hb));(clear hb hg Cc);(clear a0 a1 a2 a3 a4 a5 a6 a7 a8 a9 o0 o1 o2 o3 o4 o5 v0 v1 v2 v3 v4);(obtain ⟨z0,z1,z2,z3,z4,z5,z6,z7,z8,z9⟩:=si.o.ten);(obtain ⟨f0,f1,f2,f3,f4,f5,f6,f7,f8,f9⟩:=si.o.fj);(have r0:=zk.o.cell (j:=0) rfl;have r1:=zk.o.cell (j:=1) rfl;have r2:=zk.o.cell (j:=2) rfl;have r3:=zk.o.free 0;have r4:=zk.o.free 1;have r5:=zk.o.free 2));have HZe:=aa (si.cS (.slice IA IB IC) (.slice ID IE IG) (.int .i64 ah) (.slice IH II IJ) (.bool false) (.int .i64 met) (.int .i64 gen) (.int .i64 aD) (.slice IK IL IM) (.slice IP IQ IU));have HAe:=aa (zk.yx (b':=w.heap.size+1+1) (by omega) (.slice IA IB IC) (.slice ID IE IG) (.int .i64 ah) (.slice IH II IJ) (.bool false) (.int .i64 met) (.int .i64 gen) (.int .i64 aD) (.slice IK IL IM) (.slice IP IQ IU));have HQe:=aa (zt.keep (gM (cU (b:=w.heap.size+1+1) (fun h=>by rcases h.2 with h9|h9 <;> omega) (.slice IA IB IC) (.slice ID IE IG) (.int .i64 ah) (.slice IH II IJ) (.bool false) (.int .i64 met) (.int .i64 gen) (.int .i64 aD) (.slice IK IL IM) (.slice IP IQ IU)) (aW (G:=fun q=>F q∧¬q=w.heap.size+1+1+1) fun q h=>⟨h.1,by rcases h.2 with h9|h9 <;> omega⟩)));have HBe:=aa (ew bA (b:=w.heap.size+1+1) (by omega) (.slice IA IB IC) (.slice ID IE IG) (.int .i64 ah) (.slice IH II IJ) (.bool false) (.int .i64 met) (.int .i64 gen) (.int .i64 aD) (.slice IK IL IM) (.slice IP IQ IU));have HZg:=aa ((((HZe.far (b':=w.heap.size+1+1+1) (by omega) 0 (.int .i64 0)).far (b':=w.heap.size+1+1+1) (by omega) 1 (.string ⟨#[]⟩)).far (b':=w.heap.size+1+1+1) (by omega) 2 (.int .i64 0)));have HAg:=aa (((HAe.set 0 (.int .i64 0)).set 1 (.string ⟨#[]⟩)).set 2 (.int .i64 0));have HQg:=aa (HQe.keep (fun ad u hu=>aN (b:=w.heap.size+1+1+1) (j:=2) (u:=.int .i64 0) (fun h=>h.2 rfl) ad u (aN (b:=w.heap.size+1+1+1) (j:=1) (u:=.string ⟨#[]⟩) (fun h=>h.2 rfl) ad u (aN (b:=w.heap.size+1+1+1) (j:=0) (u:=.int .i64 0) (fun h=>h.2 rfl) ad u hu))));have YF:=aa (HQg.keep (aW (G:=F) fun q h=>h.1))
 have YG:=aa (((HBe.setCell (p:=⟨w.heap.size+1+1+1,0,none⟩) (by show w.heap.size≤w.heap.size+1+1+1;omega) (.int .i64 0)).setCell (p:=⟨w.heap.size+1+1+1,1,none⟩) (by show w.heap.size≤w.heap.size+1+1+1;omega) (.string ⟨#[]⟩)).setCell (p:=⟨w.heap.size+1+1+1,2,none⟩) (by show w.heap.size≤w.heap.size+1+1+1;omega) (.int .i64 0));have Cp:=HZg.o;have M9:=HAg.o;unfold cS at YF YG Cp M9;obtain ⟨g0,g1,g2,g3,g4,g5,g6,g7,g8,g9⟩:=Cp.ten;have k0:=M9.cell (j:=0) rfl;have k1:=M9.cell (j:=1) rfl;have k2:=M9.cell (j:=2) rfl;refine au (v:=.tuple #[.agg #[.slice IA IB IC,.slice ID IE IG,.int .i64 ah,.slice IH II IJ,.bool false,.int .i64 met,.int .i64 gen,.int .i64 aD,.slice IK IL IM,.slice IP IQ IU],.agg #[.int .i64 0,.string ⟨#[]⟩,.int .i64 0]]) ⟨t,HG,⟨.slice IA IB IC,.slice ID IE IG,.slice IH II IJ,.slice IK IL IM,.slice IP IQ IU⟩,rfl,YF,YG⟩ ?_;simp[results,Tryz.results61,go_sem,g0,g1,g2,g3,g4,g5,g6,g7,g8,g9,k0,k1,k2]
theorem IZ (p:bX) (v:PV) (x:J1) (w:World) (F:Nat→Prop) (hF:∀q,w.heap.size≤q→F q) (h:bh (mask F w) p v) (ls:bO p.av) (tH:cA p=true) (IX:p.disk.dead=false) (Lq:x.act=4) (ht:x.text.size=256) (k:Nat) (s:Int×Int) (hf:qW x.FR 0 (jd p.av)=k) (hs:(jd p.av)[k]?=some s) (hb0:0≤x.block∧x.block<s.2) (hs2:s.2≤100000) (d:dy) (QR:(findD p.av x.FR).1=d) (hlen:(aB d.map).length≤1999) (UO:Gk (aB d.map))
 (z:List UInt8) (pk0:Bool) (hE:E1 x.text.data.toList=(z,pk0,true)) (hz:z.length≤256) (c:List (List aj)) (ch a:Int) (hT:bL p.tabs (bQ z.length) (-1)=(c,ch,a,true)) (hx:cE ⟨ch,a,z.length,pk0⟩=true)
 (d':aL) (hL:Hx p.disk (eC p ⟨ch,a,z.length,pk0⟩) ⟨z.toArray⟩ (bQ z.length).toNat=(d',0)) (hG:(kh (aB d.map) x.block).2=false) :
 Calls Tryz.prog 61 #[dZ p v,.agg x.cells.toArray] w (fun e w'=>∃t,Grown (fE (aB d.map) x.block (cG ⟨ch,a,z.length,pk0⟩) false) t∧u6 F w {p with disk:=d',av:=fo p.av ⟨d.id,d.size,t⟩,tabs:=c} [WJ 0 eB 0] e w'):=by
 have YH:=(bF.1 tH).2.2.1;have aaC:p.av.length≤64:=by
  have h1:=(bF.1 tH).2.2.2.2.2.2;unfold cg at h1
  split at h1
  ·rename_i h2;exact rQ h2.2.2
  ·cases h1
 have dS:=aa (fun (W:World) (hb:Bw w W)=>kC p v W ((h.keep dh).keep (af hb)) ls);rw[tH] at dS;have mW:=aa (fun (W:World) (hb:Bw w W)=>yy p v W ((h.keep dh).keep (af hb)) (by omega));have AP:=aa (fun (v1:Value) (W:World) (h1:dx W v1 3 Na (jd p.av))=>Pa (jd p.av) x k s v1 W h1 Lq ht hf hs hb0);have Ld:=aa (fun (W:World) (hb:Bw w W)=>A8 p.av x.FR v.v W (FW F w.heap.size 4) (h.av.keep (oI hb)));rw[QR] at Ld;have IY:=aa (fun (dv:Value) (W:World) (hb:Bw w W) (hs:w.heap.size+4≤W.heap.size) (hd:vK (mask (FW F w.heap.size 4) W) dv d)=>E4 p v d dv x W (FW F w.heap.size 4) (fun q hq=>⟨hF q (by omega),.inr (by omega)⟩) (h.keep (oI hb)) hd YH ht ls hlen UO (by unfold aP;omega) z pk0 hE hz c ch a hT hx d' hL hG);have ya:=aa hF;obtain ⟨pk,nk,ck,pc,nc,cc,pp,np,cp,pv,nv,cv,pt,nt,ct,rfl⟩:=h.sl;clear h ls tH YH aaC hF ht hf hs hb0 hs2 QR hlen UO hE hz hT hx hL hG;obtain ⟨⟨kept,cache,ah,keep,dead⟩,met,gen,aD,av,tabs⟩:=p;obtain ⟨xa,xv,xd,xb,xn,xt⟩:=x;simp only at IX Lq;subst IX;subst Lq;unfold J1.cells dZ at *;simp only at dS mW AP Ld IY ⊢;obtain ⟨W1,hW1⟩:=aG ((((w.alloc (.cells #[.slice pk nk ck,.slice pc nc cc,.int .i64 ah,.slice pp np cp,.bool false,.int .i64 met,.int .i64 gen,.int .i64 aD,.slice pv nv cv,.slice pt nt ct] 30)).alloc (.cells #[.int .i64 4,.int .i64 xv,.int .i64 xd,.int .i64 xb,.int .i64 xn,.string xt] 111)).alloc (.cells #[.slice none 0 0,.slice none 0 0,.int .i64 0,.slice none 0 0,.bool false,.int .i64 0,.int .i64 0,.int .i64 0,.slice none 0 0,.slice none 0 0] 30)).alloc (.cells #[.int .i64 0,.string ⟨#[]⟩,.int .i64 0] 107));have aU:=aa (WN w [.slice pk nk ck,.slice pc nc cc,.int .i64 ah,.slice pp np cp,.bool false,.int .i64 met,.int .i64 gen,.int .i64 aD,.slice pv nv cv,.slice pt nt ct] [.int .i64 4,.int .i64 xv,.int .i64 xd,.int .i64 xb,.int .i64 xn,.string xt] [.slice none 0 0,.slice none 0 0,.int .i64 0,.slice none 0 0,.bool false,.int .i64 0,.int .i64 0,.int .i64 0,.slice none 0 0,.slice none 0 0] [.int .i64 0,.string ⟨#[]⟩,.int .i64 0] 30 111 30 107);rw[hW1] at aU;have ed:=aa hW1;clear hW1;go_enter Tryz.func61,Tryz.ntmps61;go_upto_region 1 with fail;rw[ed.o];clear ed;obtain ⟨a0,a1,a2,a3,a4,a5,a6,a7,a8,a9⟩:=aU.1.ten;go_upto_region 5 with (go_at_call 15;(with_reducible refine (dS.o _ aU.o.2.2.2.2).mono ?_);(rintro e w2 ⟨rfl,hb⟩);(have bU:=aa (ak aU.o.2.2.2.2 hb));(have pT:=aa (aU.o.1.below hb));(have nM:=aa (aU.o.2.1.below hb));(have ym:=aa (aU.o.2.2.1.below hb));(have FT:=aa (aU.o.2.2.2.1.below hb));(clear hb);(have b4:=pT.o.cell (j:=4) rfl));clear a0 a1 a2 a3 a4 a5 a6 a7 a8 a9 b4;have fL:=aa (show Bw w w2.drew from bU.drew);have VY:=aa (DC pT.drew nM.drew)
 go_region_held3 (fun w'=>w'.cell? ⟨w.heap.size,0,none⟩=some (.slice pk nk ck)∧w'.cell? ⟨w.heap.size,1,none⟩=some (.slice pc nc cc)∧w'.cell? ⟨w.heap.size,2,none⟩=some (.int .i64 ah)∧w'.cell? ⟨w.heap.size,3,none⟩=some (.slice pp np cp)∧w'.cell? ⟨w.heap.size,4,none⟩=some (.bool false)∧w'.cell? ⟨w.heap.size,5,none⟩=some (.int .i64 met)∧w'.cell? ⟨w.heap.size,6,none⟩=some (.int .i64 gen)∧w'.cell? ⟨w.heap.size,7,none⟩=some (.int .i64 aD)∧w'.cell? ⟨w.heap.size,8,none⟩=some (.slice pv nv cv)∧w'.cell? ⟨w.heap.size,9,none⟩=some (.slice pt nt ct)∧w'.cell? ⟨w.heap.size+1,0,none⟩=some (.int .i64 4)∧w'.cell? ⟨w.heap.size+1,1,none⟩=some (.int .i64 xv)∧w'.cell? ⟨w.heap.size+1,2,none⟩=some (.int .i64 xd)∧w'.cell? ⟨w.heap.size+1,3,none⟩=some (.int .i64 xb)∧w'.cell? ⟨w.heap.size+1,4,none⟩=some (.int .i64 xn)∧w'.cell? ⟨w.heap.size+1,5,none⟩=some (.string xt))
  (first|exact VY.o|exact gG.o|exact mA.o)
  (first|((with_reducible refine (mW.o _ fL.o).mono ?_);(rintro e w3 ⟨v3,rfl,hr3,hb⟩);(obtain ⟨p3,c3,rfl,_,_⟩:=hr3.slice);(have uz:=aa hr3);(have dG:=aV fL hb);(have yn:=aa (pT.o.drew.below hb));(have qD:=aa (nM.o.drew.below hb));(have sK:=aa (ym.o.drew.below hb));(have Tf:=aa (FT.o.drew.below hb));(have gG:=aa (DC yn.o qD.o));(clear hb hr3))|((with_reducible refine (AP.o _ _ uz.o).mono ?_);(rintro e w4 ⟨rfl,hb⟩);(have gz:=aV dG hb);(have JW:=aa (yn.o.below hb));(have pP:=aa (qD.o.below hb));(have qq:=aa (sK.o.below hb));(have HA4:=aa (Tf.o.below hb));(have mA:=aa (DC JW.o pP.o));(clear hb)))
 have c8:=JW.cell (j:=8) rfl;have o0:=pP.cell (j:=0) rfl;have o1:=pP.cell (j:=1) rfl;go_upto_region 11 with (go_at_call 108;(with_reducible refine (Ld.o _ gz.o).mono ?_);(rintro e w6 ⟨v6,rfl,hv6,hb⟩);(obtain ⟨ta,tb,tc,rfl,Pd,pX,qj⟩:=hv6);(obtain ⟨qa,na,ka,qb,nb,kb,qc,KX,kc,rfl,rfl,rfl⟩:=bc qj);(have yR:=aa qj);(have HI:=aa (And.intro Pd pX));(have cQ:=aV gz hb);(have WE:=aa (JW.o.below hb));(have FL:=aa (pP.o.below hb));(have Hz:=aa (qq.o.below hb));(have HA6:=aa (HA4.o.below hb));(clear hb Pd pX qj));clear c8 o0 o1;obtain ⟨W7,zn⟩:=aG (w6.alloc (.cells #[.int .i64 d.id,.int .i64 d.size,.slice qa na ka,.slice qb nb kb,.slice qc KX kc] 75));have dO:Bw w6 W7:=by rw[← zn];exact aq
 have HV7:=aa (show aJ W7 w6.heap.size [.int .i64 d.id,.int .i64 d.size,.slice qa na ka,.slice qb nb kb,.slice qc KX kc] by rw[← zn];exact aJ.new w6 _ _);have HN7:=aa (yR.keep (aC dO (fun _ _ h=>h)));have fg:=aV cQ dO;have Wl:=aa (WE.below dO);have pY:=aa (FL.below dO);have E0:=aa (Hz.below dO);have HA7:=aa (HA6.below dO);rw[zn];clear zn dO;have hS7:w.heap.size+4≤W7.heap.size:=by have:=HA7.lt;omega
 obtain ⟨a0,a1,a2,a3,a4,a5,a6,a7,a8,a9⟩:=Wl.ten;have o0:=pY.cell (j:=0) rfl;have o1:=pY.cell (j:=1) rfl;have o2:=pY.cell (j:=2) rfl;have o3:=pY.cell (j:=3) rfl;have o4:=pY.cell (j:=4) rfl;have o5:=pY.cell (j:=5) rfl;obtain ⟨v0,v1,v2,v3,v4⟩:=HV7.five;have HL7:=aa (IY.o (.agg #[.int .i64 d.id,.int .i64 d.size,.slice qa na ka,.slice qb nb kb,.slice qc KX kc]) W7 fg hS7 ⟨_,_,_,rfl,HI.1,HI.2,HN7⟩);unfold dZ at *;go_wp2_with (go_at_call 113;(with_reducible refine HL7.o.mono ?_);(rintro e w5 ⟨t,hg,v5,rfl,Cc,hb⟩);(have HG:=aa hg);(have zt:=aa Cc);(obtain ⟨IA,IB,IC,ID,IE,IG,IH,II,IJ,IK,IL,IM,IP,IQ,IU,rfl⟩:=Cc.sl);(unfold dZ WJ at *);(simp only at zt ⊢);(have bA:=aV fg hb);(have si:=aa (E0.o.below hb));(have zk:=aa (HA7.o.below hb));(clear hb hg Cc);(clear a0 a1 a2 a3 a4 a5 a6 a7 a8 a9 o0 o1 o2 o3 o4 o5 v0 v1 v2 v3 v4);(obtain ⟨z0,z1,z2,z3,z4,z5,z6,z7,z8,z9⟩:=si.o.ten);(obtain ⟨f0,f1,f2,f3,f4,f5,f6,f7,f8,f9⟩:=si.o.fj);(have r0:=zk.o.cell (j:=0) rfl;have r1:=zk.o.cell (j:=1) rfl;have r2:=zk.o.cell (j:=2) rfl;have r3:=zk.o.free 0;have r4:=zk.o.free 1;have r5:=zk.o.free 2));have HZe:=aa (si.cS (.slice IA IB IC) (.slice ID IE IG) (.int .i64 d'.ah) (.slice IH II IJ) (.bool d'.dead) (.int .i64 met) (.int .i64 gen) (.int .i64 aD) (.slice IK IL IM) (.slice IP IQ IU));have HAe:=aa (zk.yx (b':=w.heap.size+1+1) (by omega) (.slice IA IB IC) (.slice ID IE IG) (.int .i64 d'.ah) (.slice IH II IJ) (.bool d'.dead) (.int .i64 met) (.int .i64 gen) (.int .i64 aD) (.slice IK IL IM) (.slice IP IQ IU));have HQe:=aa (zt.keep (gM (cU (b:=w.heap.size+1+1) (fun h=>by rcases h.2 with h9|h9 <;> omega) (.slice IA IB IC) (.slice ID IE IG) (.int .i64 d'.ah) (.slice IH II IJ) (.bool d'.dead) (.int .i64 met) (.int .i64 gen) (.int .i64 aD) (.slice IK IL IM) (.slice IP IQ IU)) (aW (G:=fun q=>F q∧¬q=w.heap.size+1+1+1) fun q h=>⟨h.1,by rcases h.2 with h9|h9 <;> omega⟩)));have HBe:=aa (ew bA (b:=w.heap.size+1+1) (by omega) (.slice IA IB IC) (.slice ID IE IG) (.int .i64 d'.ah) (.slice IH II IJ) (.bool d'.dead) (.int .i64 met) (.int .i64 gen) (.int .i64 aD) (.slice IK IL IM) (.slice IP IQ IU));have HZg:=aa ((((HZe.far (b':=w.heap.size+1+1+1) (by omega) 0 (.int .i64 0)).far (b':=w.heap.size+1+1+1) (by omega) 1 (.string eB)).far (b':=w.heap.size+1+1+1) (by omega) 2 (.int .i64 0)));have HAg:=aa (((HAe.set 0 (.int .i64 0)).set 1 (.string eB)).set 2 (.int .i64 0));have HQg:=aa (HQe.keep (fun ad u hu=>aN (b:=w.heap.size+1+1+1) (j:=2) (u:=.int .i64 0) (fun h=>h.2 rfl) ad u (aN (b:=w.heap.size+1+1+1) (j:=1) (u:=.string eB) (fun h=>h.2 rfl) ad u (aN (b:=w.heap.size+1+1+1) (j:=0) (u:=.int .i64 0) (fun h=>h.2 rfl) ad u hu))));have YF:=aa (HQg.keep (aW (G:=F) fun q h=>h.1))
 have YG:=aa (((HBe.setCell (p:=⟨w.heap.size+1+1+1,0,none⟩) (by show w.heap.size≤w.heap.size+1+1+1;omega) (.int .i64 0)).setCell (p:=⟨w.heap.size+1+1+1,1,none⟩) (by show w.heap.size≤w.heap.size+1+1+1;omega) (.string eB)).setCell (p:=⟨w.heap.size+1+1+1,2,none⟩) (by show w.heap.size≤w.heap.size+1+1+1;omega) (.int .i64 0));have Cp:=HZg.o;have M9:=HAg.o;unfold cS at YF YG Cp M9;obtain ⟨g0,g1,g2,g3,g4,g5,g6,g7,g8,g9⟩:=Cp.ten;have k0:=M9.cell (j:=0) rfl;have k1:=M9.cell (j:=1) rfl;have k2:=M9.cell (j:=2) rfl;refine au (v:=.tuple #[.agg #[.slice IA IB IC,.slice ID IE IG,.int .i64 d'.ah,.slice IH II IJ,.bool d'.dead,.int .i64 met,.int .i64 gen,.int .i64 aD,.slice IK IL IM,.slice IP IQ IU],.agg #[.int .i64 0,.string eB,.int .i64 0]]) ⟨t,HG,⟨.slice IA IB IC,.slice ID IE IG,.slice IH II IJ,.slice IK IL IM,.slice IP IQ IU⟩,rfl,YF,YG⟩ ?_;simp[results,Tryz.results61,go_sem,g0,g1,g2,g3,g4,g5,g6,g7,g8,g9,k0,k1,k2]
def fI (l:List az) (n:Int):List (aA×Int):=(l.filter (fun p=>sD p.1&&decide ((bM p.1).chunk=n))).map (fun p=>(bM p.1,p.2))
noncomputable def br (l:List dy) (n:Int):List (aA×Int):=fI (aY l) n
theorem Ps {l:List az} {n:Int} {k:Nat} {p:az} (h:l[k]?=some p) (h1:sD p.1=true) (h2:(bM p.1).chunk=n):fI (l.drop k) n=(bM p.1,p.2)::fI (l.drop (k+1)) n:=by unfold fI;rw[List.drop_eq_getElem_cons (List.getElem?_eq_some_iff.1 h).1,(List.getElem?_eq_some_iff.1 h).2,List.filter_cons_of_pos (by rw[h1,decide_eq_true h2];rfl),List.map_cons]
theorem TF {l:List az} {n:Int} {k:Nat} {p:az} (h:l[k]?=some p) (h2:¬(bM p.1).chunk=n):fI (l.drop k) n=fI (l.drop (k+1)) n:=by unfold fI;rw[List.drop_eq_getElem_cons (List.getElem?_eq_some_iff.1 h).1,(List.getElem?_eq_some_iff.1 h).2,List.filter_cons_of_neg (by rw[decide_eq_false h2];simp)]
theorem Pt {l:List az} {n:Int} {k:Nat} (h:l.length≤k):fI (l.drop k) n=[]:=by rw[List.drop_of_length_le h];rfl
def bH (n:Int):List (aA×Int)→List (List aj)×(Int→Option aA)→Option (List (List aj)×(Int→Option aA))
 |[],s=>some s
 |x::l,s=>if (bL s.1 (bQ x.1.size) n).2.2.2=true then bH n l ((bL s.1 (bQ x.1.size) n).1,ru s.2 (cG x.1) ⟨(bL s.1 (bQ x.1.size) n).2.1,(bL s.1 (bQ x.1.size) n).2.2.1,x.1.size,x.1.packed⟩) else none
theorem Fc {n:Int} {l:List (aA×Int)} {x:aA×Int}:∀ {s s':List (List aj)×(Int→Option aA)},bH n l s=some s'→bH n (l++[x]) s=bH n [x] s':=by
 induction l with
 |nil=>intro s s' h;unfold bH at h;cases h;rfl
 |cons a l ih=>
  intro s s' h;unfold bH at h;rw[List.cons_append,bH];by_cases e:(bL s.1 (bQ a.1.size) n).2.2.2=true
  ·rw[if_pos e] at h ⊢;exact ih h
  ·rw[if_neg e] at h;cases h
def jm (s:ByteArray) (left:Int):ByteArray:=if left<32 then s.extract 0 left.toNat++⟨(List.replicate (32-left).toNat (0:UInt8)).toArray⟩ else s
def fU:Nat→aL→Int→Int→Int→aL×Int
 |0,d,_,_,_=>(d,0)
 |k+1,d,a,b,left=>if left≤0 then (d,0) else if ¬(fq d a).2=0 then (d,(fq d a).2) else
  if ¬(cC d b (jm (fq d a).1 left)).2=0 then cC d b (jm (fq d a).1 left) else fU k (cC d b (jm (fq d a).1 left)).1 (a+1) (b+1) (left-32)
def lr (met:Int) (d:aL) (x dst:aA):aL×Int:=fU (bQ x.size).toNat d (2+2*met+16*x.chunk+x.pos) (2+2*met+16*dst.chunk+dst.pos) x.size
def bl (met:Int) (f:Int→Option aA):List (aA×Int)→aL→aL×Int
 |[],d=>(d,0)
 |x::l,d=>if ¬(lr met d x.1 ((f (cG x.1)).getD aA.zero)).2=0 then lr met d x.1 ((f (cG x.1)).getD aA.zero) else bl met f l (lr met d x.1 ((f (cG x.1)).getD aA.zero)).1
theorem Fe {met:Int} {f:Int→Option aA} {l m:List (aA×Int)}:∀ {d d':aL},bl met f l d=(d',0)→bl met f (l++m) d=bl met f m d':=by
 induction l with
 |nil=>intro d d' h;unfold bl at h;cases h;rfl
 |cons a l ih=>
  intro d d' h;unfold bl at h;rw[List.cons_append,bl];by_cases e:¬(lr met d a.1 ((f (cG a.1)).getD aA.zero)).2=0
  ·rw[if_pos e] at h;exact absurd (by rw[h]) e
  ·rw[if_neg e] at h ⊢;exact ih h
def jA (c:List (List aj)) (dst x:aA) (often:Int):List (List aj):=
 let c1:=c.set dst.chunk.toNat (((c[dst.chunk.toNat]?).getD []).map (cL dst.pos often))
 let c2:=c1.set x.chunk.toNat (((c1[x.chunk.toNat]?).getD []).map (cL x.pos 1))
 if (fT c2 x (-1)).2=true then (fT c2 x (-1)).1 else c2
def cJ (f:Int→Option aA) (l:List (aA×Int)) (c:List (List aj)):List (List aj):=l.foldl (fun c x=>jA c ((f (cG x.1)).getD aA.zero) x.1 x.2) c
def ir (f:Int→Option aA) (v:Int):Int:=match f v with|some y=>cG y|none=>v
mutual
def je (f:Int→Option aA):ag→ag
 |.mk ks vs kids=>.mk ks (vs.map (ir f)) (WY f kids)
def WY (f:Int→Option aA):List ag→List ag
 |[]=>[]
 |t::l=>je f t::WY f l
end
theorem oJ (f:Int→Option aA):∀l:List ag,WY f l=l.map (je f)
 |[]=>rfl
 |t::l=>by rw[WY,List.map_cons,oJ f l]
def mK (f:Int→Option aA) (v:dy):dy:=⟨v.id,v.size,je f v.map⟩
noncomputable def cX (p:bX) (n:Int):bX×Int:=
 if cA p=false then (ET,1) else if p.disk.dead=true then (p,90) else if n<0∨(p.tabs.length:Int)≤n then (p,1) else
 match bH n (br p.av n) (p.tabs,fun _=>none) with
 |none=>(p,210)
 |some s=>if ¬(bl p.met s.2 (br p.av n) p.disk).2=0 then ({p with disk:=(bl p.met s.2 (br p.av n) p.disk).1},(bl p.met s.2 (br p.av n) p.disk).2) else
  ({p with disk:=(bl p.met s.2 (br p.av n) p.disk).1,tabs:=cJ s.2 (br p.av n) s.1,av:=p.av.map (mK s.2)},0)
theorem DV (f:Int→Option aA) (t:ag):(je f t).keys=t.keys:=by cases t;rfl
theorem Bu (f:Int→Option aA) (t:ag):∀low,bG (je f t) low=bG t low:=by
 induction t using ag.ind with
 |h ks vs kids ih=>
  intro low;have hl:oU (kids.map (je f)) ks=oU kids ks:=by
   rw[Bool.eq_iff_iff,eV,eV];constructor
   ·intro h j t ht
    have:=h j (je f t) (by rw[List.getElem?_map,ht];rfl);rw[ih t (List.mem_of_getElem? ht),DV] at this;exact this
   ·intro h j t ht
    rw[List.getElem?_map] at ht;cases hk:kids[j]? with
    |none=>rw[hk] at ht;cases ht
    |some s=>rw[hk] at ht;cases ht;rw[ih s (List.mem_of_getElem? hk),DV];exact h j s hk
  simp only[je,oJ,bG,List.length_map,hl]
def Xf (f:Int→Option aA) (p:az):az:=(p.1,ir f p.2)
theorem mN (f:Int→Option aA) (t:ag):aB (je f t)=(aB t).map (Xf f):=by
 induction t using ag.ind with
 |h ks vs kids ih=>
  have hl:bR (kids.map (je f))=(bR kids).map (Xf f):=by rw[bZ,bZ,List.map_map,List.map_flatten,List.map_map];congr 1;exact List.map_congr_left fun t ht=>ih t ht
  simp only[je,oJ,aB,List.length_map,hl,List.map_append];congr 1
  split
  ·rw[List.zip_map_right]
   rfl
  ·rfl
theorem DW (f:Int→Option aA):∀(l:List ag) (m d:Int),(∀t∈l,∀m,cH (je f t) m=cH t m)→uC (l.map (je f)) m d=uC l m d
 |[],m,d,_=>rfl
 |t::l,m,d,h=>by rw[List.map_cons,uC,uC,h t (List.mem_cons_self ..) m,DW f l m d fun s hs=>h s (List.mem_cons_of_mem _ hs)]
theorem PM (f:Int→Option aA):∀(l:List ag) (m:Int),(∀t∈l,∀m,cH (je f t) m=cH t m)→lu (l.map (je f)) m=lu l m
 |[],m,_=>rfl
 |t::l,m,h=>by rw[List.map_cons,lu,lu,h t (List.mem_cons_self ..) m,DW f l m _ fun s hs=>h s (List.mem_cons_of_mem _ hs)]
theorem DX (f:Int→Option aA) (t:ag):∀m,cH (je f t) m=cH t m:=by
 induction t using ag.ind with
 |h ks vs kids ih=>intro m;simp only[je,oJ,cH];rw[PM f kids _ ih]
theorem Grown.rew {l:List az} {t:ag} (h:Grown l t) (f:Int→Option aA):Grown (l.map (Xf f)) (je f t):=⟨by rw[mN,h.1],by rw[DX];exact h.2.1,by rw[Bu];exact h.2.2⟩
def fe (w:World) (Z:Nat→Prop) (v:Value) (c:List (List aj)):Prop:=
 ∃rs:List wJ,jL w 0 v c.length rs c∧(∀g,v.ownBlock=some g→Z g)∧∀(i:Nat) s,rs[i]?=some s→∀g,(ik s).ownBlock=some g→Z g
theorem fe.mono {w:World} {Z Z':Nat→Prop} {v:Value} {c:List (List aj)} (h:fe w Z v c) (hz:∀q,Z q→Z' q):fe w Z' v c:=by obtain ⟨rs,h1,h2,h3⟩:=h;exact ⟨rs,h1,fun g e=>hz g (h2 g e),fun i s hs g e=>hz g (h3 i s hs g e)⟩
theorem Bv {v:Value} {row:Option Nat} (h:∀g,v.ownBlock=some g→row≠some g):v.ownBlock=none∨v.ownBlock≠row:=by
 cases e:v.ownBlock with
 |none=>exact .inl rfl
 |some g=>exact .inr (fun h2=>h g e h2.symm)
theorem fe.kept {w w':World} {Z:Nat→Prop} {v:Value} {c:List (List aj)} {row:Option Nat} (h:fe w Z v c) (hg:w.grownBy w' row) (hz:∀q,Z q→row≠some q):fe w' Z v c:=by obtain ⟨rs,⟨h1,h2,h3,h4⟩,h5,h6⟩:=h;refine ⟨rs,⟨h1,h2.kept hg (Bv fun g e=>hz g (h5 g e)),fun i s t hs ht=>(h3 i s t hs ht).kept hg (Bv fun g e=>hz g (h6 i s hs g e)),h4⟩,h5,h6⟩
theorem fe.low {w w':World} {Z:Nat→Prop} {v:Value} {c:List (List aj)} (h:fe w Z v c) (hb:Bw w w'):fe w' Z v c:=h.kept (aS hb none) (fun q _ e=>by cases e)
theorem mJ.tin {w:World} {B:Nat} {v:Value} {c:List (List aj)} (h:mJ w B v c):fe w (fun q=>B≤q∧q<w.heap.size) v c:=by
 rcases h with ⟨rfl,rfl⟩|⟨g,cap,rs,rfl,h⟩
 ·exact ⟨[],⟨rfl,World.ownsRow_nil _ _ _ _,fun i s t hs=>by simp at hs,fun i j s s' _ hs=>by simp at hs⟩,fun g e=>by simp[Value.ownBlock] at e,fun i s hs=>by simp at hs⟩
 ·obtain ⟨h1,h2,h3,h4⟩:=h
  refine ⟨rs,⟨h1,bC dQ h2,fun i s t hs ht=>bC dQ (h3 i s t hs ht),h4⟩,fun g e=>h2.lt g e,fun i s hs g e=>?_⟩;have hi:=(List.getElem?_eq_some_iff.1 hs).1;rw[h1] at hi;exact (h3 i s _ hs (List.getElem?_eq_getElem hi)).lt g e
theorem LO {F:Nat→Prop} {w:World} {B:Nat} {v:Value} {l:List aj} (h:w.ownsRow B 52 4 v l.length (aI l)) (hF:∀g,v.ownBlock=some g→F g):dB (mask F w) v l:=by
 rcases aK h with ⟨hv,hn,_⟩|⟨g,cap,hv⟩
 ·have hl:l=[]:=List.eq_nil_of_length_eq_zero hn
  subst hl;rw[hv];exact Hp _
 ·have hg:=hF g (by rw[hv];rfl)
  obtain ⟨p,c,e,h2,h3,h4⟩:=fw h;refine ⟨p,c,e,h2,h3,fun i x hx=>?_⟩;obtain ⟨g',o',e1,k0,k1,k2,k3⟩:=h4 i x hx;have:g'=g:=by rw[hv,e1] at e;injection e with e _ _;injection e with e;injection e with e;exact e.symm
  subst this;exact ⟨g',o',e1,ar.2 ⟨hg,k0⟩,ar.2 ⟨hg,k1⟩,ar.2 ⟨hg,k2⟩,ar.2 ⟨hg,k3⟩⟩
theorem fe.at {w:World} {Z:Nat→Prop} {v:Value} {c:List (List aj)} (h:fe w Z v c):dI (mask Z w) v c:=by
 obtain ⟨rs,⟨h1,h2,h3,h4⟩,h5,h6⟩:=h;rcases aK h2 with ⟨hv,hn,_⟩|⟨g,cap,hv⟩
 ·have hc:c=[]:=List.eq_nil_of_length_eq_zero hn
  subst hc;rw[hv];exact rY _
 ·subst hv
  obtain ⟨_,_,_,c3,c4,_⟩:=bp h2;refine uX (n:=c.length) rfl c3 c4 h1 fun i s t hs ht=>⟨⟨g,0,rfl,?_⟩,?_⟩
  ·have hx:(bn Ho rs)[i]?=some (ik s):=by
    have:=eQ (f:=Ho) (k:=1) lJ rs i s 0 (ik s) hs rfl
    simpa using this
   obtain ⟨h7,h8⟩:=List.getElem?_eq_some_iff.1 hx;have:=bJ h2 i h7;rw[h8] at this;exact ar.2 ⟨h5 g rfl,by rw[Nat.zero_add];exact this⟩
  ·exact LO (h3 i s t hs ht) fun g e=>h6 i s hs g e
theorem fe.row {w:World} {Z:Nat→Prop} {v:Value} {c:List (List aj)} (h:fe w Z v c) {i:Nat} {t:List aj} (ht:c[i]?=some t):∃(s:wJ) (g cap:Nat),v=.slice (some ⟨g,0,none⟩) c.length cap∧Z g∧w.cell? ⟨g,i,none⟩=some (ik s)∧w.ownsRow 0 52 4 (ik s) t.length (aI t)∧(∀q,(ik s).ownBlock=some q→Z q∧q≠g) ∧
 ∀(w':World) (t':List aj),w.grownBy w' (ik s).ownBlock→w'.ownsRow 0 52 4 (ik s) t'.length (aI t')→fe w' Z v (c.set i t'):=by
 obtain ⟨rs,⟨h1,h2,h3,h4⟩,h5,h6⟩:=h;have hi:=(List.getElem?_eq_some_iff.1 ht).1;rcases aK h2 with ⟨_,hn,_⟩|⟨g,cap,hv⟩
 ·omega
 subst hv;have hs:rs[i]?=some (rs[i]'(by rw[h1];exact hi)):=List.getElem?_eq_getElem _;obtain ⟨s,hse⟩:=aG (rs[i]'(by rw[h1];exact hi));rw[hse] at hs;have hr:=h3 i s t hs ht;have Ux:=cR hr h2 (by decide);have hx:(bn Ho rs)[i]?=some (ik s):=by
  have:=eQ (f:=Ho) (k:=1) lJ rs i s 0 (ik s) hs rfl
  simpa using this
 refine ⟨s,g,cap,rfl,h5 g rfl,?_,hr,fun q e=>⟨h6 i s hs q e,fun e2=>?_⟩,fun w' t' hg Kv=>⟨rs,?_,fun q e=>h5 q e,h6⟩⟩
 ·obtain ⟨h7,h8⟩:=List.getElem?_eq_some_iff.1 hx
  have:=bJ h2 i h7;rw[h8] at this;exact this
 ·rcases Ux with h9|h9
  ·rw[h9] at e;cases e
  ·exact h9 (by rw[e,e2];rfl)
 rw[List.length_set];refine ⟨h1,h2.kept hg ?_,fun j s2 u hs2 hu=>?_,h4⟩
 ·right;intro e
  rcases Ux with h9|h9
  ·rw[h9] at e;cases e
  ·exact h9 e.symm
 ·by_cases e:i=j
  ·subst e
   rw[List.getElem?_set_self hi] at hu;rw[hs] at hs2;cases hu;cases hs2;exact Kv
  ·rw[List.getElem?_set_ne e] at hu
   refine (h3 j s2 u hs2 hu).kept hg ?_;exact h4 j i s2 s (fun h=>e h.symm) hs2 hs
theorem count_nil (a n:Int) (w:World):Calls Tryz.prog 84 #[.slice none 0 0,.int .i64 a,.int .i64 n] w fun e w'=>e=.returned (.tuple #[])∧w'=w:=by
 go_enter Tryz.func84,Tryz.ntmps84;go_wp2_with fail;go_loopw [9] (fun i wr=>i=.int .i64 0∧wr=w) (fun _ _=>0)
 case atStart=>exact ⟨rfl,rfl⟩
 case round=>obtain ⟨rfl,rfl⟩:=hrel;go_wp2_with fail;go_end0;exact ⟨rfl,rfl⟩
theorem Bz {w:World} {Z:Nat→Prop} {v:Value} {c:List (List aj)} {i:Nat} {t:List aj} {s:wJ} {a n:Int} (hr:w.ownsRow 0 52 4 (ik s) t.length (aI t)) (hl:t.length≤1000)
 (hb:∀(w':World) (t':List aj),w.grownBy w' (ik s).ownBlock→w'.ownsRow 0 52 4 (ik s) t'.length (aI t')→fe w' Z v (c.set i t')) :
 Calls Tryz.prog 84 #[ik s,.int .i64 a,.int .i64 n] w fun e w'=>e=.returned (.tuple #[])∧fe w' Z v (c.set i (t.map (cL a n)))∧w.grownBy w' (ik s).ownBlock:=by
 rcases aK hr with ⟨hv,hn,_⟩|⟨g,cap,hv⟩
 ·have ht:t=[]:=List.eq_nil_of_length_eq_zero hn
  subst ht;rw[hv] at hr hb ⊢;refine (count_nil a n w).mono ?_;rintro e w' ⟨rfl,rfl⟩;exact ⟨rfl,hb _ _ (World.grownBy.refl _ _) hr,World.grownBy.refl _ _⟩
 ·rw[hv] at hr hb ⊢
  refine (E9 t a n 0 g cap w hr hl).mono ?_;rintro e w' ⟨rfl,h1,h2⟩;exact ⟨rfl,hb _ _ h2 (by rw[List.length_map];exact h1),h2⟩
structure dr (Z:Nat→Prop) (w w':World):Prop where
 os:w'.os=w.os
 tape:w'.tape=w.tape
 output:w'.output=w.output
 size:w.heap.size≤w'.heap.size
 block:∀k,k<w.heap.size→¬Z k→w'.heap[k]?=w.heap[k]?
theorem dr.eN {Z:Nat→Prop} {w w':World} (h:Bw w w'):dr Z w w':=⟨h.os,h.tape,h.output,h.size,fun k hk _=>h.block k hk⟩
theorem dr.gJ {Z:Nat→Prop} {w w':World} {row:Option Nat} (h:w.grownBy w' row) (hr:∀r,row=some r→Z r):dr Z w w':=⟨h.os,h.tape,h.output,h.size,fun k hk hz=>h.block k hk (fun e=>hz (hr k e.symm))⟩
theorem dr.trans {Z:Nat→Prop} {a b c:World} (h:dr Z a b) (k:dr Z b c):dr Z a c:=
 ⟨k.os.trans h.os,k.tape.trans h.tape,k.output.trans h.output,Nat.le_trans h.size k.size,fun i hi hz=>(k.block i (Nat.lt_of_lt_of_le hi h.size) hz).trans (h.block i hi hz)⟩
theorem dr.mono {Z Z':Nat→Prop} {w w':World} (h:dr Z w w') (hz:∀q,Z q→Z' q):dr Z' w w':=⟨h.os,h.tape,h.output,h.size,fun k hk h2=>h.block k hk (fun h3=>h2 (hz k h3))⟩
theorem zx {W:World} {b g i:Nat} {cs:List Value} {a0 a1 u:Value} (h:aJ W b (a0::a1::cs)) (h2:W.cell? ⟨g,i,none⟩=some u):W.cell? ⟨b,0,none⟩=some a0∧W.cell? ⟨b,1,none⟩=some a1∧W.cell? ⟨g,i,none⟩=some u:=⟨h.cell rfl,h.cell rfl,h2⟩
theorem PQ (c:List (List aj)) (v1:Value) (dst x:aA) (often:Int) (w:World) (Z:Nat→Prop) (h:fe w Z v1 c) (hZ:∀q,Z q→q<w.heap.size) (hl:∀t∈c,t.length≤1000) (hd:0≤dst.chunk∧dst.chunk<c.length) (hx:0≤x.chunk∧x.chunk<c.length) (hc:c.length≤1000000) :
 Calls Tryz.prog 33 #[v1,dst.agg,x.agg,.int .i64 often] w fun e w'=>∃v',e=.returned v'∧fe w' (fun q=>Z q∨(w.heap.size≤q∧q<w'.heap.size)) v' (jA c dst x often)∧dr Z w w':=by
 obtain ⟨dc,dp,ds,dk⟩:=dst;obtain ⟨xc,xp,xs,xk⟩:=x;simp only at hd hx;obtain ⟨dc,rfl⟩:∃n:Nat,dc=n:=⟨dc.toNat,by omega⟩
 obtain ⟨xc,rfl⟩:∃n:Nat,xc=n:=⟨xc.toNat,by omega⟩
 obtain ⟨N,hN⟩:=aG c.length;obtain ⟨r,hr⟩:=aG (jA c ⟨dc,dp,ds,dk⟩ ⟨xc,xp,xs,xk⟩ often);rw[hr];unfold jA at hr;simp only[Int.toNat_natCast] at hr;obtain ⟨t1,MS⟩:∃t,c[dc]?=some t:=⟨_,List.getElem?_eq_getElem (by omega)⟩
 rw[MS,Option.getD_some] at hr;obtain ⟨c1,hc1⟩:=aG (c.set dc (t1.map (cL dp often)));rw[hc1] at hr;have BX:c1.length=N:=by rw[← hc1,List.length_set,hN]
 obtain ⟨t2,Sz⟩:∃t,c1[xc]?=some t:=⟨_,List.getElem?_eq_getElem (by omega)⟩
 rw[Sz,Option.getD_some] at hr;obtain ⟨c2,hc2⟩:=aG (c1.set xc (t2.map (cL xp 1)));rw[hc2] at hr;have hb1:t1.length≤1000:=hl t1 (List.mem_of_getElem? MS);have hb2:t2.length≤1000:=by
  have hm:=List.mem_of_getElem? Sz;rw[← hc1] at hm;rcases List.mem_or_eq_of_mem_set hm with h|h
  ·exact hl _ h
  ·rw[h,List.length_map];exact hb1
 have HR:=aa hr;have tB:=aa hc1;have pK:=aa hc2;have HT2:=aa Sz;have xJ:=aa BX;have HZ:=aa hZ;unfold aA.agg;simp only;obtain ⟨W1,hW1⟩:=aG ((w.alloc (.cells #[.int .i64 dc,.int .i64 dp,.int .i64 ds,.bool dk] 50)).alloc (.cells #[.int .i64 xc,.int .i64 xp,.int .i64 xs,.bool xk] 50));have aU:=aa (zb w [.int .i64 dc,.int .i64 dp,.int .i64 ds,.bool dk] [.int .i64 xc,.int .i64 xp,.int .i64 xs,.bool xk] 50 50);rw[hW1] at aU;have ed:=aa hW1;have hT:=h.low (aU.2.2.drew);obtain ⟨⟨s1,s2,s3⟩,g,cap,rfl,hg,hcell,hrow,Sh,hback⟩:=hT.row MS;have HC:=aa (Bz (a:=dp) (n:=often) hrow hb1 hback);have mA:=aa Sh;rw[hc1] at HC;have HG:=aa (HZ.o g hg);have Nc:=aa hcell;unfold ik at HC mA Nc;simp only at HC mA Nc;rw[hN] at HC hd hx ⊢;have EB:(0:Int)≤(dc:Int):=by omega
 have Rj:(dc:Int)<(N:Int):=hd.2;have hx1:(0:Int)≤(xc:Int):=by omega
 have hx2:(xc:Int)<(N:Int):=hx.2;have hNl:(N:Int)≤9223372036854775807:=by omega
 clear h hT hback hrow hcell Sh hr hc1 hc2 MS Sz BX hW1 hl hZ hd hx hb1 hg;go_enter Tryz.func33,Tryz.ntmps33;go_upto_region 1 with fail;rw[ed.o];clear ed;have gG:=aa (zx aU.1.drew Nc);go_region_held3 (fun w'=>w'.cell? ⟨w.heap.size,0,none⟩=some (.int .i64 dc)∧w'.cell? ⟨w.heap.size,1,none⟩=some (.int .i64 dp)∧w'.cell? ⟨g,dc,none⟩=some (.slice s1 s2 s3))
  (first|(with_reducible exact gG.o)|(with_reducible exact Lp.o))
  (first|((with_reducible refine HC.o.mono ?_);rintro e w2 ⟨rfl,ht,hgr⟩;have Vp:=aa hgr;have HT:=aa ht;have hne:∀k,w.heap.size≤k→some k≠(Value.slice s1 s2 s3).ownBlock:=(fun k hk e=>by have h1:=(mA.o k e.symm).1;have:=HZ.o k h1;omega);have HXA:=aa (aU.o.1.drew.grown hgr (hne _ aT));have XQ:=aa (aU.o.2.1.drew.grown hgr (hne _ (Nat.le_succ _)));have Lp:=aa (zx HXA.o (hgr.cell Nc.o (fun e=>(mA.o g e.symm).2 rfl)));clear ht hgr hne))
 go_upto_region 2 with fail;have hT2:=HT.low (show Bw w2 w2.drew from aH.drew);obtain ⟨⟨q1,q2,q3⟩,g2,Tk,ND,hg2,TM,hrow2,agq,TP⟩:=hT2.row HT2.o;obtain rfl:g2=g:=by simp only[Value.slice.injEq,Option.some.injEq,Addr.mk.injEq,and_true] at ND;exact ND.1.symm
 have RS:=aa (Bz (a:=xp) (n:=1) hrow2 hb2 TP);rw[pK.o] at RS;have TQ:=aa agq;have Fo:=aa TM;unfold ik at RS TQ Fo;simp only at RS TQ Fo;have amb:=aa (zx XQ.drew Fo);clear hT2 ND hg2 TM hrow2 agq TP
 try clear hHeld
 go_region_held3 (fun w'=>w'.cell? ⟨w.heap.size+1,0,none⟩=some (.int .i64 xc)∧w'.cell? ⟨w.heap.size+1,1,none⟩=some (.int .i64 xp)∧w'.cell? ⟨g2,xc,none⟩=some (.slice q1 q2 q3))
  (first|(with_reducible exact amb.o)|(with_reducible exact Q0.o))
  (first|((with_reducible refine RS.o.mono ?_);rintro e w4 ⟨rfl,ht,hgr⟩;have QL:=aa hgr;have HT4:=aa ht;have hne:∀k,w.heap.size≤k→some k≠(Value.slice q1 q2 q3).ownBlock:=(fun k hk e=>by have h1:=(TQ.o k e.symm).1;have:=HZ.o k h1;omega);have agr:=aa (XQ.o.drew.grown hgr (hne _ (Nat.le_succ _)));have Q0:=aa (zx agr.o (hgr.cell Fo.o (fun e=>(TQ.o g2 e.symm).2 rfl)));clear ht hgr hne))
 have qq:=aa (show dr Z w w4 from (((dr.eN aU.2.2.drew).trans (dr.gJ Vp (fun q e=>(mA q e).1))).trans (dr.eN (show Bw w2 w2.drew from aH.drew))).trans (dr.gJ QL (fun q e=>(TQ q e).1)));obtain ⟨x0,x1,x2,x3⟩:=agr.four;have WV:=aa (LL c2 ⟨xc,xp,xs,xk⟩ _ w4 (HT4.at.keep dh));unfold aA.agg at WV;simp only at WV;obtain ⟨⟨c3,bo⟩,htt⟩:∃q,fT c2 ⟨xc,xp,xs,xk⟩ (-1)=q:=⟨_,rfl⟩
 rw[htt] at WV HR;simp only at WV HR;clear htt;cases bo with
 |true=>have uz:=aa (show c3=r by rw[← HR.o,if_pos rfl]);go_upto_region 4 with (go_at_call 85;(with_reducible refine WV.o.mono ?_);rintro e w5 ⟨v5,rfl,ho,hb⟩;have Cr:=aa ho;have bA:=aa hb;clear ho hb);go_wp2_with fail;go_ret;exact ⟨_,rfl,by rw[← uz.o];exact Cr.tin.mono (fun q h=>.inr ⟨Nat.le_trans qq.size h.1,h.2⟩),qq.trans (dr.eN bA)⟩
 |false=>have uz:=aa (show c2=r by rw[← HR.o,if_neg (by simp)]);go_upto_region 4 with (go_at_call 85;(with_reducible refine WV.o.mono ?_);rintro e w5 ⟨v5,rfl,ho,hb⟩;have Cr:=aa ho;have bA:=aa hb;clear ho hb);go_wp2_with fail;go_ret;exact ⟨_,rfl,by rw[← uz.o];exact (HT4.low bA).mono (fun q h=>.inl h),qq.trans (dr.eN bA)⟩
end Go.Proofs.YtbigkioechkngaaGreat
namespace Go.Proofs.YtbigkioechkngaaGreat
open Go.RowKit Go.ChangeShapes Go.WideShapes Go.Deep
section
variable {H:Type} {enc:TypeId×Value→H} {w:World} {spare:Nat→Bool} {held:Bool}
theorem Ed:Tryz.prog.cellsOf 9=1:=by kernel_rfl
theorem um:Tryz.prog.cellsOf 4=1:=by kernel_rfl
theorem Qm:Tryz.prog.cellsOf 47=2:=by kernel_rfl
theorem Qn:Tryz.prog.cellsOf 52=4:=by kernel_rfl
theorem Md:Tryz.prog.cellsOf 45=1:=by kernel_rfl
theorem Me:Tryz.prog.cellsOf 30=10:=by kernel_rfl
theorem Mf:Tryz.prog.cellsOf 26=5:=by kernel_rfl
theorem Mg:Tryz.prog.cellsOf 22=1:=by kernel_rfl
theorem Mh:Tryz.prog.cellsOf 23=1:=by kernel_rfl
theorem JD:Tryz.prog.cellsOf 24=1:=by kernel_rfl
theorem JE:Tryz.prog.cellsOf 27=1:=by kernel_rfl
theorem JF:Tryz.prog.cellsOf 28=1:=by kernel_rfl
theorem Ug {n:Nat} {u:Value} {y:DataW H×List MemPlace} (h:DataW.trod enc Tryz.prog w 0 spare held n 9 [u]=some y):∃s:ByteArray,u=.string s∧s.size≤maxLen:=by obtain ⟨s,e,_,b⟩:=DataW.trod_string Tryz.underlying9 h;exact ⟨s,List.head_eq_of_cons_eq e,b⟩
theorem FB {n:Nat} {u:Value} {y:DataW H×List MemPlace} (h:DataW.trod enc Tryz.prog w 0 spare held n 4 [u]=some y):∃b:Bool,u=.bool b:=by obtain ⟨b,e,_⟩:=DataW.trod_bool Tryz.underlying4 h;exact ⟨b,List.head_eq_of_cons_eq e⟩
theorem Qo {n:Nat} {v:Value} {y:DataW H×List MemPlace} (h:DataW.trod enc Tryz.prog w 0 spare held n 22 [v]=some y):∃l:List ByteArray,dx w v 1 lg l∧∀s∈l,s.size≤maxLen:=by
 rcases iG Tryz.underlying22 Ed (by omega) h with h0|⟨g,o,len,cap,n',_,hv,hl,hm,hf⟩
 ·exact ⟨[],by rw[h0];exact lC w 1 lg,fun s hs=>by simp at hs⟩
 ·obtain ⟨l,pL,hp⟩:=nH len (fun i (s:ByteArray)=>s.size≤maxLen∧w.cell? ⟨g,o+i,none⟩=some (.string s)) (fun i hi=>by
   obtain ⟨cs,ql,hat,y',hy⟩:=hf i hi
   match cs,ql with
   |[u],_=>
    obtain ⟨s,rfl,hs⟩:=Ug hy;exact ⟨s,hs,by have:=hat 0 _ rfl;rw[Nat.mul_one,Nat.add_zero] at this;exact this⟩)
  rcases hv with hv|⟨h0,a,hv⟩
  ·refine ⟨l,⟨_,cap,by rw[pL];exact hv,by rw[pL];exact hl,hm,(fun e=>by cases e),fun i s hs=>⟨g,o,rfl,fun j u hj=>?_⟩⟩,fun s hs=>?_⟩
   ·match j with
    |0=>simp only[lg,List.getElem?_cons_zero,Option.some.injEq] at hj;subst hj;rw[Nat.mul_one,Nat.add_zero];exact (hp i s hs).2
    |j+1=>simp[lg] at hj
   ·obtain ⟨i,hi⟩:=List.mem_iff_getElem?.1 hs
    exact (hp i s hi).1
  ·subst h0
   obtain rfl:l=[]:=List.eq_nil_of_length_eq_zero pL;exact ⟨[],⟨_,cap,hv,dQ,hm,(fun e=>by cases e),fun i d hd=>by simp at hd⟩,fun s hs=>by simp at hs⟩
theorem Uh {n:Nat} {v:Value} {y:DataW H×List MemPlace} (h:DataW.trod enc Tryz.prog w 0 spare held n 24 [v]=some y):∃l:List Bool,dA w v l:=by
 rcases iG Tryz.underlying24 um (by omega) h with h0|⟨g,o,len,cap,n',_,hv,hl,hm,hf⟩
 ·exact ⟨[],by rw[h0];exact iJ w⟩
 ·obtain ⟨l,pL,hp⟩:=nH len (fun i (b:Bool)=>w.cell? ⟨g,o+i,none⟩=some (.bool b)) (fun i hi=>by
   obtain ⟨cs,ql,hat,y',hy⟩:=hf i hi
   match cs,ql with
   |[u],_=>
    obtain ⟨b,rfl⟩:=FB hy;exact ⟨b,by have:=hat 0 _ rfl;rw[Nat.mul_one,Nat.add_zero] at this;exact this⟩)
  rcases hv with hv|⟨h0,a,hv⟩
  ·exact ⟨l,_,cap,by rw[pL];exact hv,by rw[pL];exact hl,hm,(fun e=>by cases e),fun i b hb=>⟨g,o,rfl,hp i b hb⟩⟩
  ·subst h0
   obtain rfl:l=[]:=List.eq_nil_of_length_eq_zero pL;exact ⟨[],_,cap,hv,dQ,hm,(fun e=>by cases e),fun i d hd=>by simp at hd⟩
theorem Ui {n:Nat} {cs:List Value} {y:DataW H×List MemPlace} (hl:cs.length=2) (h:DataW.trod enc Tryz.prog w 0 spare held n 47 cs=some y):∃p:fB,cs=lG p∧aP p.1∧p.2.size≤maxLen:=by
 match cs,hl with
 |[c0,c1],_=>obtain ⟨xs,m,rfl,_,_,hlen,hf⟩:=DataW.trod_struct Tryz.underlying47 h;have Cj:DataW.trod enc Tryz.prog w 0 spare held m 3 [c0]=xs[0]?:=cB (j:=0) (T:=3) (off:=0) rfl gK hf;have JC:DataW.trod enc Tryz.prog w 0 spare held m 9 [c1]=xs[1]?:=cB (j:=1) (T:=9) (off:=1) rfl Ed hf;have B5:xs.length=2:=hlen;rw[List.getElem?_eq_getElem (by omega)] at Cj JC;obtain ⟨i,rfl,hi⟩:=mU Cj;obtain ⟨s,rfl,hs⟩:=Ug JC;exact ⟨(i,s),rfl,hi,hs⟩
theorem Qp {n:Nat} {v:Value} {y:DataW H×List MemPlace} (h:DataW.trod enc Tryz.prog w 0 spare held n 23 [v]=some y):∃l:List fB,dx w v 2 lG l∧∀p∈l,aP p.1∧p.2.size≤maxLen:=by
 rcases iG Tryz.underlying23 Qm (by omega) h with h0|⟨g,o,len,cap,n',_,hv,hl,hm,hf⟩
 ·exact ⟨[],by rw[h0];exact lC w 2 lG,fun s hs=>by simp at hs⟩
 ·obtain ⟨l,pL,hp⟩:=nH len (fun i (p:fB)=>(aP p.1∧p.2.size≤maxLen)∧∀(j:Nat) u,(lG p)[j]?=some u→w.cell? ⟨g,o+(i*2+j),none⟩=some u) (fun i hi=>by
   obtain ⟨cs,ql,hat,y',hy⟩:=hf i hi;obtain ⟨p,rfl,hb⟩:=Ui ql hy;exact ⟨p,hb,hat⟩)
  rcases hv with hv|⟨h0,a,hv⟩
  ·refine ⟨l,⟨_,cap,by rw[pL];exact hv,by rw[pL];exact hl,hm,(fun e=>by cases e),fun i p hpp=>⟨g,o,rfl,fun j u hj=>?_⟩⟩,fun p hpp=>?_⟩
   ·have:=(hp i p hpp).2 j u hj
    rw[← Nat.add_assoc] at this;exact this
   ·obtain ⟨i,hi⟩:=List.mem_iff_getElem?.1 hpp
    exact (hp i p hi).1
  ·subst h0
   obtain rfl:l=[]:=List.eq_nil_of_length_eq_zero pL;exact ⟨[],⟨_,cap,hv,dQ,hm,(fun e=>by cases e),fun i d hd=>by simp at hd⟩,fun s hs=>by simp at hs⟩
theorem Uj {n:Nat} {cs:List Value} {y:DataW H×List MemPlace} (hl:cs.length=4) (h:DataW.trod enc Tryz.prog w 0 spare held n 52 cs=some y):∃x:aj,cs=[.int .i64 x.1,.int .i64 x.2.1,.int .i64 x.2.2.1,.bool x.2.2.2]:=by
 match cs,hl with
 |[c0,c1,c2,c3],_=>obtain ⟨xs,m,rfl,_,_,hlen,hf⟩:=DataW.trod_struct Tryz.underlying52 h;have Cj:DataW.trod enc Tryz.prog w 0 spare held m 3 [c0]=xs[0]?:=cB (j:=0) (T:=3) (off:=0) rfl gK hf;have JC:DataW.trod enc Tryz.prog w 0 spare held m 3 [c1]=xs[1]?:=cB (j:=1) (T:=3) (off:=1) rfl gK hf;have CJ:DataW.trod enc Tryz.prog w 0 spare held m 3 [c2]=xs[2]?:=cB (j:=2) (T:=3) (off:=2) rfl gK hf;have MF:DataW.trod enc Tryz.prog w 0 spare held m 4 [c3]=xs[3]?:=cB (j:=3) (T:=4) (off:=3) rfl um hf;have B5:xs.length=4:=hlen;rw[List.getElem?_eq_getElem (by omega)] at Cj JC CJ MF;obtain ⟨i,rfl,_⟩:=mU Cj;obtain ⟨j,rfl,_⟩:=mU JC;obtain ⟨k,rfl,_⟩:=mU CJ;obtain ⟨b,rfl⟩:=FB MF;exact ⟨(i,j,k,b),rfl⟩
theorem Qq {n:Nat} {v:Value} {y:DataW H×List MemPlace} (h:DataW.trod enc Tryz.prog w 0 spare held n 45 [v]=some y):∃l:List aj,dB w v l:=by
 rcases iG Tryz.underlying45 Qn (by omega) h with h0|⟨g,o,len,cap,n',_,hv,hl,hm,hf⟩
 ·exact ⟨[],none,0,h0,aT,dQ,fun i d hd=>by simp at hd⟩
 ·obtain ⟨l,pL,hp⟩:=nH len (fun i (x:aj)=>U4 g (o+i*4) x.1 x.2.1 x.2.2.1 x.2.2.2 w) (fun i hi=>by
   obtain ⟨cs,ql,hat,y',hy⟩:=hf i hi;obtain ⟨x,rfl⟩:=Uj ql hy;exact ⟨x,hat 0 _ rfl,hat 1 _ rfl,hat 2 _ rfl,hat 3 _ rfl⟩)
  rcases hv with hv|⟨h0,a,hv⟩
  ·exact ⟨l,_,cap,by rw[pL];exact hv,by rw[pL];exact hl,hm,fun i x hx=>⟨g,o,rfl,hp i x hx⟩⟩
  ·subst h0
   obtain rfl:l=[]:=List.eq_nil_of_length_eq_zero pL;exact ⟨[],_,cap,hv,dQ,hm,fun i d hd=>by simp at hd⟩
theorem Qr {n:Nat} {v:Value} {y:DataW H×List MemPlace} (h:DataW.trod enc Tryz.prog w 0 spare held n 28 [v]=some y):∃l:List (List aj),dI w v l:=by
 rcases iG Tryz.underlying28 Md (by omega) h with h0|⟨g,o,len,cap,n',_,hv,hl,hm,hf⟩
 ·exact ⟨[],none,0,h0,aT,dQ,fun i d hd=>by simp at hd⟩
 ·obtain ⟨l,pL,hp⟩:=nH len (fun i (x:List aj)=>∃u,w.cell? ⟨g,o+i,none⟩=some u∧dB w u x) (fun i hi=>by
   obtain ⟨cs,ql,hat,y',hy⟩:=hf i hi
   match cs,ql with
   |[u],_=>
    obtain ⟨x,hx⟩:=Qq hy;exact ⟨x,u,by have:=hat 0 _ rfl;rw[Nat.mul_one,Nat.add_zero] at this;exact this,hx⟩)
  rcases hv with hv|⟨h0,a,hv⟩
  ·exact ⟨l,_,cap,by rw[pL];exact hv,by rw[pL];exact hl,hm,fun i x hx=>by
    obtain ⟨u,h1,h2⟩:=hp i x hx;exact ⟨g,o,u,rfl,h1,h2⟩⟩
  ·subst h0
   obtain rfl:l=[]:=List.eq_nil_of_length_eq_zero pL;exact ⟨[],_,cap,hv,dQ,hm,fun i d hd=>by simp at hd⟩
theorem Qs {n:Nat} {cs:List Value} {y:DataW H×List MemPlace} (hl:cs.length=5) (h:DataW.trod enc Tryz.prog w 0 spare held n 26 cs=some y):∃(d:aL) (vk vc vp:Value),cs=[vk,vc,.int .i64 d.ah,vp,.bool d.dead]∧bP w d vk vc vp:=by
 match cs,hl with
 |[c0,c1,c2,c3,c4],_=>obtain ⟨xs,m,rfl,_,_,hlen,hf⟩:=DataW.trod_struct Tryz.underlying26 h;have Cj:DataW.trod enc Tryz.prog w 0 spare held m 22 [c0]=xs[0]?:=cB (j:=0) (T:=22) (off:=0) rfl Mg hf;have JC:DataW.trod enc Tryz.prog w 0 spare held m 23 [c1]=xs[1]?:=cB (j:=1) (T:=23) (off:=1) rfl Mh hf;have CJ:DataW.trod enc Tryz.prog w 0 spare held m 3 [c2]=xs[2]?:=cB (j:=2) (T:=3) (off:=2) rfl gK hf;have MF:DataW.trod enc Tryz.prog w 0 spare held m 24 [c3]=xs[3]?:=cB (j:=3) (T:=24) (off:=3) rfl JD hf;have h4':DataW.trod enc Tryz.prog w 0 spare held m 4 [c4]=xs[4]?:=cB (j:=4) (T:=4) (off:=4) rfl um hf;have B5:xs.length=5:=hlen;rw[List.getElem?_eq_getElem (by omega)] at Cj JC CJ MF h4';obtain ⟨kept,hk,hk2⟩:=Qo Cj;obtain ⟨cache,hc,hc2⟩:=Qp JC;obtain ⟨f,rfl,hf2⟩:=mU CJ;obtain ⟨keep,hp⟩:=Uh MF;obtain ⟨b,rfl⟩:=FB h4';exact ⟨⟨kept,cache,f,keep,b⟩,c0,c1,c3,rfl,hk,hc,hp,hk2,hc2,hf2⟩
theorem Qt {n:Nat} {cs:List Value} {y:DataW H×List MemPlace} (hl:cs.length=10) (h:DataW.trod enc Tryz.prog w 0 spare held n 30 cs=some y):∃(p:bX) (v:PV),.agg cs.toArray=dZ p v∧bh w p v:=by
 match cs,hl with
 |[c0,c1,c2,c3,c4,c5,c6,c7,c8,c9],_=>obtain ⟨xs,m,rfl,_,_,hlen,hf⟩:=DataW.trod_struct Tryz.underlying30 h;have Cj:DataW.trod enc Tryz.prog w 0 spare held m 26 [c0,c1,c2,c3,c4]=xs[0]?:=cB (j:=0) (T:=26) (off:=0) rfl Mf hf;have JC:DataW.trod enc Tryz.prog w 0 spare held m 3 [c5]=xs[1]?:=cB (j:=1) (T:=3) (off:=5) rfl gK hf;have CJ:DataW.trod enc Tryz.prog w 0 spare held m 3 [c6]=xs[2]?:=cB (j:=2) (T:=3) (off:=6) rfl gK hf;have MF:DataW.trod enc Tryz.prog w 0 spare held m 3 [c7]=xs[3]?:=cB (j:=3) (T:=3) (off:=7) rfl gK hf;have h4':DataW.trod enc Tryz.prog w 0 spare held m 27 [c8]=xs[4]?:=cB (j:=4) (T:=27) (off:=8) rfl JE hf;have h5':DataW.trod enc Tryz.prog w 0 spare held m 28 [c9]=xs[5]?:=cB (j:=5) (T:=28) (off:=9) rfl JF hf;have B5:xs.length=6:=hlen;rw[List.getElem?_eq_getElem (by omega)] at Cj JC CJ MF h4' h5';obtain ⟨d,vk,vc,vp,e,hd⟩:=Qs rfl Cj;simp only[List.cons.injEq,and_true] at e;obtain ⟨rfl,rfl,rfl,rfl,rfl⟩:=e;obtain ⟨a,rfl,ha⟩:=mU JC;obtain ⟨b,rfl,hb⟩:=mU CJ;obtain ⟨c,rfl,hc⟩:=mU MF;obtain ⟨vs,hv⟩:=Ql h4';obtain ⟨ts,ht⟩:=Qr h5';exact ⟨⟨d,a,b,c,vs,ts⟩,⟨c0,c1,c3,c8,c9⟩,rfl,hd,hv,ht,ha,hb,hc⟩
theorem uo {r:Reach} {b0:Nat} {v:Value} {d:DataW H} {ps:List MemPlace} (hv:Value.okWide Tryz.prog w r b0 30 v) (h:DataW.Trod enc Tryz.prog w 0 spare held 30 v d ps):∃(p:bX) (u:PV),v=dZ p u∧bh w p u:=by obtain ⟨cs,rfl,hs⟩:=okWide_struct Tryz.underlying30 hv;rw[Me] at hs;obtain ⟨fuel,h⟩:=h;have h':DataW.trod enc Tryz.prog w 0 spare held fuel 30 cs.toList=some (d,ps):=h;exact Qt (n:=fuel) (by simpa using hs) h'
end
end Go.Proofs.YtbigkioechkngaaGreat
