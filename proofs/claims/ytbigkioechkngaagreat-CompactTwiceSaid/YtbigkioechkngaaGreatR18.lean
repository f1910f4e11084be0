/- The proof, part 19. -/
import Derived.Test.YtbigkioechkngaaGreatR17
set_option maxRecDepth 100000
set_option maxHeartbeats 8000000
namespace Go.Proofs.YtbigkioechkngaaGreat
open Go.RowKit Tryz
variable {n:Int}{c:List (List aj)}{ks vs:List Int}{l:List ay}{B i k:Nat}{F Z:Nat→Prop}{ro:Option Nat}{a b v:Value}{w w':World}{t:ag}
def MD (x:Int×Int):List Value:=[.int .i64 x.1,.int .i64 x.2,.slice none 0 0]
theorem V9 (x:Int×Int):(MD x).length=3:=rfl
theorem SN (n:Int) (w:World):Calls prog 149 #[.int .i64 n] w fun e w'=>e=.returned (.bool (decide (1≤n∧n≤1000)))∧w=w':=by
 by_cases h0:1≤n
 ·have d0:decide (1≤n)=true:=decide_eq_true h0
  by_cases h1:n≤1000
  ·have HF:=aa (show decide (1≤n∧n≤1000)=true from decide_eq_true ⟨h0,h1⟩)
   have d1:decide (n≤1000)=true:=decide_eq_true h1;clear h0 h1;go_enter func149,ntmps149;go_wp2_with fail;go_ret;exact ⟨aN HF.symm,rfl⟩
  ·have HF:=aa (show decide (1≤n∧n≤1000)=false from decide_eq_false (fun h=>h1 h.2))
   have d1:decide (n≤1000)=false:=decide_eq_false h1;clear h0 h1;go_enter func149,ntmps149;go_wp2_with fail;go_ret;exact ⟨aN HF.symm,rfl⟩
 ·have d0:decide (1≤n)=false:=decide_eq_false h0
  have HF:=aa (show decide (1≤n∧n≤1000)=false from decide_eq_false (fun h=>h0 h.1));clear h0;go_enter func149,ntmps149;go_wp2_with fail;go_ret;exact ⟨aN HF.symm,rfl⟩
theorem KT (n:Int) (h:0≤n∧n≤100000) (w:World):Calls prog 150 #[.int .i64 n] w fun e w'=>e=.returned (.bool true)∧w=w':=by have d0:decide (0≤n)=true:=decide_eq_true h.1;have d1:decide (n≤100000)=true:=decide_eq_true h.2;clear h;go_enter func150,ntmps150;go_wp2_with fail;go_ret;exact ⟨rfl,rfl⟩
def qI (id:Int):Nat→List (Int×Int)→Int
 |_,[] => -1
 |i,x::l=>if x.1=id then (i:Int) else qI id (i+1) l
theorem KV {l:List (Int×Int)} {x:Int×Int} {id:Int} (h:l[k]?=some x):qI id k (l.drop k)=if x.1=id then (k:Int) else qI id (k+1) (l.drop (k+1)):=by rw[List.drop_eq_getElem_cons (List.getElem?_eq_some_iff.1 h).1,(List.getElem?_eq_some_iff.1 h).2];rfl
theorem AL (l:List (Int×Int)) (id:Int) (v1:Value) (w:World) (h1:dw w v1 3 MD l):Calls prog 148 #[v1,.int .i64 id] w fun e w'=>e=.returned (.int .i64 (qI id 0 l))∧Bw w w':=by
 obtain ⟨p,cp,rfl,a1,a2,_,ha⟩:=h1;have HA:=aa ha;obtain ⟨N,hN⟩:=aG l.length;rw[hN] at a1;rw[hN];have hlc:=fG (n:=N) a2;have HN:=aa hN;clear ha hN a1 a2;obtain ⟨r,hr⟩:=aG (qI id 0 l);rw[hr];have HR:=aa hr;clear hr;go_enter func148,ntmps148;go_wp2_with fail;go_loopw [5] (fun i wr=>∃k:Nat,k≤N∧i=.int .i64 k∧qI id k (l.drop k)=r∧Bw w wr) (fun i _=>N-(intOf i).toNat)
 case atStart=>exact ⟨0,dO,rfl,by rw[List.drop_zero];exact HR,aH⟩
 case round=>
  obtain ⟨k,hk,rfl,hall,hb⟩:=hrel;have ed:=aa hall;have HB:=aa hb;clear hall hb;by_cases hlt:k<N
  case neg=>
   obtain rfl:k=N:=by omega
   have HF:=aa (show r = -1 by rw[← ed.o,List.drop_of_length_le (by rw[HN.o];exact aT)];rfl);go_wp2_with fail;go_ret;exact ⟨kH HF.symm,HB⟩
  case pos=>
   have fN:(k:Int)<(N:Int):=(by omega);obtain ⟨⟨x,y⟩,hs⟩:∃s,l[k]?=some s:=⟨_,List.getElem?_eq_getElem (by rw[HN.o];omega)⟩
   obtain ⟨g,o,rfl,x1⟩:=HA.o k _ hs;have r0:=ae HB (x1 0 _ rfl);simp only[Nat.add_zero] at r0;have fX:=aa (KV (id:=id) hs);clear hs x1;by_cases he:x=id
   ·have hd:(x==id)=true:=by simpa using he
    have HF:=aa (show r=(k:Int) by rw[← ed.o,fX.o,if_pos he]);clear he;go_wp2_with fail;go_ret;exact ⟨kH HF.symm,HB⟩
   ·have hd:(x==id)=false:=by simpa using he
    have HF:=aa (show qI id (k+1) (l.drop (k+1))=r by rw[← ed.o,fX.o,if_neg he]);clear he;go_wp2_with fail;go_roundw
    case rel=>exact ⟨k+1,by omega,by go_num,HF.o,HB.o⟩
    case measure=>simp[intOf];omega
theorem OD (l:List (Int×Int)) (x:JB) (v1:Value) (w:World) (h1:dw w v1 3 MD l) (ha:x.act=0) (hi:1≤x.Fk∧x.Fk≤1000) (hn:0≤x.n∧x.n≤100000) (hf:qI x.Fk 0 l = -1) (hl:l.length<64):Calls prog 106 #[v1,.agg x.cells.toArray] w fun e w'=>e=.returned (.int .i64 0)∧Bw w w':=by have J8:=aa (fun W (hb:Bw w W)=>AL l x.Fk v1 W (h1.keep (af hb)));rw[hf] at J8;have HID:=aa (fun W=>SN x.Fk W);rw[decide_eq_true hi] at HID;have Y4:=aa (fun W=>KT x.n hn W);obtain ⟨p,cp,rfl,_,_,_,_⟩:=h1;obtain ⟨xa,xv,xd,xb,xn,xt⟩:=x;simp only at ha J8 HID Y4;subst ha;unfold JB.cells;simp only;obtain ⟨N,hN⟩:=aG l.length;rw[hN] at hl J8 ⊢;have hlc:decide (64≤(N:Int))=false:=decide_eq_false (by omega);have ZH:decide (64≤N)=false:=decide_eq_false (by omega);clear hi hn hf hN hl;obtain ⟨W1,hW1⟩:=aG (w.alloc (.cells #[.int .i64 0,.int .i64 xv,.int .i64 xd,.int .i64 xb,.int .i64 xn,.string xt] 111));have aU:=aa (show aK W1 w.heap.size [.int .i64 0,.int .i64 xv,.int .i64 xd,.int .i64 xb,.int .i64 xn,.string xt] by rw[← hW1];exact aK.new w _ _);have aY:=aa (show Bw w W1 by rw[← hW1];exact ar);have ee:=aa hW1;clear hW1;go_enter func106,ntmps106;go_upto_region 1 with fail;rw[ee.o];clear ee;have c1:=aU.cell (j:=1) rfl;go_wp2_with (first|(go_at_call 148;(with_reducible refine (J8.o _ aY.o).mono ?_);rintro e w2 ⟨rfl,hb⟩;have bS:=bh aY hb;have dV:=aa (aU.o.below hb);clear hb;have d0:=dV.o.cell (j:=0) rfl;have d1:=dV.o.cell (j:=1) rfl;have d4:=dV.o.cell (j:=4) rfl)|(go_at_call 149;(with_reducible refine (HID.o _).mono ?_);rintro e w3 ⟨rfl,rfl⟩)|(go_at_call 150;(with_reducible refine (Y4.o _).mono ?_);rintro e w3 ⟨rfl,rfl⟩));go_ret;exact ⟨rfl,bS⟩
theorem OE (l:List (Int×Int)) (x:JB) (k:Nat) (s:Int×Int) (v1:Value) (w:World) (h1:dw w v1 3 MD l) (ha:x.act=4) (ht:x.text.size=256) (hf:qI x.Fk 0 l=k) (hs:l[k]?=some s) (hb0:0≤x.block∧x.block<s.2):Calls prog 106 #[v1,.agg x.cells.toArray] w fun e w'=>e=.returned (.int .i64 0)∧Bw w w':=by
 have J8:=aa (fun W (hb:Bw w W)=>AL l x.Fk v1 W (h1.keep (af hb)));rw[hf] at J8;obtain ⟨p,cp,rfl,a1,a2,_,hc⟩:=h1;obtain ⟨g,o,rfl,x1⟩:=hc k s hs;have hk:=(List.getElem?_eq_some_iff.1 hs).1;have x2:=x1 1 _ rfl;obtain ⟨xa,xv,xd,xb,xn,xt⟩:=x;simp only at ha J8 ht hb0;subst ha;unfold JB.cells;simp only;obtain ⟨N,hN⟩:=aG l.length;rw[hN] at hk J8 a1 ⊢;obtain ⟨S,hS⟩:=aG s.2;rw[hS] at x2 hb0;have fN:(k:Int)<(N:Int):=by omega
 have MQ:(0:Int)≤(k:Int):=by omega
 have hlc:=fG (n:=N) a2;have e0:decide ((k:Int)<0)=false:=decide_eq_false (by omega);have e1:decide (xb<0)=false:=decide_eq_false (by omega);have e2:decide (S≤xb)=false:=decide_eq_false (by omega);have e3:((xt.size:Int) != 256)=false:=by simp;omega
 have e4:(xt.size != 256)=false:=by simp[ht]
 have e5:(xt.size:Int)≤9223372036854775807:=by omega
 clear hf hN hS hs x1 hc a1 a2 ht hb0 hk;obtain ⟨W1,hW1⟩:=aG (w.alloc (.cells #[.int .i64 4,.int .i64 xv,.int .i64 xd,.int .i64 xb,.int .i64 xn,.string xt] 111));have aU:=aa (show aK W1 w.heap.size [.int .i64 4,.int .i64 xv,.int .i64 xd,.int .i64 xb,.int .i64 xn,.string xt] by rw[← hW1];exact aK.new w _ _);have aY:=aa (show Bw w W1 by rw[← hW1];exact ar);have ee:=aa hW1;have dV:=aa x2;clear hW1 x2;go_enter func106,ntmps106;go_upto_region 1 with fail;rw[ee.o];clear ee;have c1:=aU.cell (j:=1) rfl;go_wp2_with (go_at_call 148;(refine (J8.o _ aY.o).mono ?_);rintro e w2 ⟨rfl,hb⟩;have bS:=bh aY hb;have kD:=aa (aU.o.below hb);have r1:=ae (ak aY.o hb) dV.o;clear hb;have d0:=kD.o.cell (j:=0) rfl;have d3:=kD.o.cell (j:=3) rfl;have d5:=kD.o.cell (j:=5) rfl);go_ret;exact ⟨rfl,bS⟩
theorem ZI:(prog.info? 97).map (fun i=>(i.zero,i.size,i.bytes))=some (some (.agg #[.int .i64 0,.int .i64 0,.slice none 0 0]),3,40):=by kernel_rfl
theorem OG (W:World) (B n:Nat) (v:Value) (l:List (Int×Int)) (x:Int×Int) (hown:W.ownsRow B 97 3 v n (bk MD l)) (hn:n≤100000000) (hB:B≤W.heap.size) :
 ∃g cap w2,(Builtin.append_ #[40,40] 40 #[v,.slice (some ⟨W.heap.size,0,none⟩) 1 1]).run prog (W.alloc (.cells #[.int .i64 x.1,.int .i64 x.2,.slice none 0 0] 97))=.ok (.slice (some ⟨g,0,none⟩) (n+1) cap) w2∧w2.ownsRow B 97 3 (.slice (some ⟨g,0,none⟩) (n+1) cap) (n+1) (bk MD (l++[x]))∧Below B W w2∧W.grownBy w2 v.ownBlock:=by
 obtain ⟨i0,iM,hz0,hz1,hz2⟩:=info_parts ZI;obtain ⟨g,cap,w2,h1,h2⟩:=eV 40 97 i0 _ 3 40 underlying40 iM hz0 hz1 hz2 rfl (by decide) (by decide) W B n v (bk MD l) (MD x) hown rfl (by intro u hu;unfold MD at hu;simp only[List.mem_cons,List.not_mem_nil,or_false] at hu;rcases hu with rfl|rfl|rfl <;> rfl) hn hB;exact ⟨g,cap,w2,h1,by rw[← fC];exact h2.row,h2.below,h2.grown⟩
def iW (l:List dx):List (Int×Int):=l.map fun d=>(d.id,d.size)
theorem Io {l:List dx} {d:dx} (h:l[k]?=some d):iW (l.take (k+1))=iW (l.take k)++[(d.id,d.size)]:=by unfold iW;rw[List.take_add_one,h,Option.toList_some,List.map_append];rfl
theorem xU (p:cm) (v:PV) (w:World) (h:br w p v) (hl:p.aw.length≤1000):Calls prog 107 #[eY p v] w fun e w'=>∃v',e=.returned v'∧dw w' v' 3 MD (iW p.aw)∧Bw w w':=by
 obtain ⟨pk,nk,ck,pc,nc,cc,pp,np,cp,pv,nv,cv,pt,nt,ct,rfl⟩:=h.sl;obtain ⟨p5,c5,e1,a1,a2,ha⟩:=h.aw;injection e1 with e1 e2 e3;subst e1;subst e2;subst e3;have HA:=aa ha;clear h ha;obtain ⟨⟨kept,cache,ah,keep,dead⟩,met,gen,aF,aw,tabs⟩:=p;unfold eY;simp only at HA hl a1 ⊢;obtain ⟨N,hN⟩:=aG aw.length;have HN:=aa hN;rw[hN] at hl a1 ⊢;have hlc:(N:Int)≤9223372036854775807:=by omega
 clear hN a1 a2;obtain ⟨W1,hW1⟩:=aG (w.alloc (.cells #[.slice pk nk ck,.slice pc nc cc,.int .i64 ah,.slice pp np cp,.bool dead,.int .i64 met,.int .i64 gen,.int .i64 aF,.slice pv N cv,.slice pt nt ct] 30));have aU:=aa (show aK W1 w.heap.size [.slice pk nk ck,.slice pc nc cc,.int .i64 ah,.slice pp np cp,.bool dead,.int .i64 met,.int .i64 gen,.int .i64 aF,.slice pv N cv,.slice pt nt ct] by rw[← hW1];exact aK.new w _ _);have aY:=aa (show Bw w W1 by rw[← hW1];exact ar);have ee:=aa hW1;clear hW1;go_enter func107,ntmps107;go_upto_region 1 with fail;rw[ee.o];clear ee;go_wp2_with fail;go_loopw [3,4] (fun o i wr=>∃(k:Nat) (po:Option Addr) (co:Nat),k≤N∧i=.int .i64 k∧o=.slice po k co∧wr.ownsRow (w.heap.size+1) 97 3 o k (bk MD (iW (aw.take k)))∧aK wr w.heap.size [.slice pk nk ck,.slice pc nc cc,.int .i64 ah,.slice pp np cp,.bool dead,.int .i64 met,.int .i64 gen,.int .i64 aF,.slice pv N cv,.slice pt nt ct]∧Bw w wr) (fun _ i _=>N-(intOf i).toNat)
 case atStart=>have hlt:=aU.lt;exact ⟨0,_,_,dO,rfl,rfl,World.ownsRow_made W1 #[] 0 (by omega) (by unfold maxLen;omega) rfl,aU.alloc _,aY.alloc aY.size _⟩
 case round=>
  obtain ⟨k,po,co,hk,rfl,rfl,hrow,hx,hb⟩:=hrel;have bU:=aa hrow;have HX:=aa hx;have HB:=aa hb;have c8:=hx.cell (j:=8) rfl;clear hrow hx hb;by_cases hlt:k<N
  case neg=>
   obtain rfl:k=N:=by omega
   have kI:=aa (show aw.take k=aw from List.take_of_length_le (by rw[HN.o];exact aT));go_wp2_with fail;go_ret;have h:=bU.o;rw[kI.o] at h;exact ⟨_,rfl,kx V9 (by unfold iW;rw[List.length_map];exact HN) h,HB⟩
  case pos=>
   have fN:(k:Int)<(N:Int):=(by omega);have MQ:(0:Int)≤(k:Int):=by omega
   obtain ⟨d,hd⟩:=fx (l:=aw) (k:=k) (by rw[HN.o];exact hlt);obtain ⟨i1,i2,g,o,ta,tb,tc,rfl,x0,x1,_⟩:=HA.o k d hd;have fX:=aa (Io hd);have kJ:=aa (show wr.drew.cell? ⟨w.heap.size,8,none⟩=some (.slice (some ⟨g,o,none⟩) N cv)∧wr.drew.cell? ⟨g,o+k*5,none⟩=some (.int .i64 d.id)∧wr.drew.cell? ⟨g,o+k*5+1,none⟩=some (.int .i64 d.size) from ⟨ae aH.drew c8,ae HB.drew x0,ae HB.drew x1⟩);have hlx:=HX.lt;obtain ⟨g2,SP,w2,hrun,hrow2,hb2,hg2⟩:=OG wr.drew (w.heap.size+1) k _ (iW (aw.take k)) (d.id,d.size) (aL bU aH.drew) (by omega) (by show w.heap.size+1≤wr.heap.size;omega);simp only at hrun;have dJ:=aa hrun;have mX:=aa (show w2.ownsRow (w.heap.size+1) 97 3 (.slice (some ⟨g2,0,none⟩) (k+1) SP) (k+1) (bk MD (iW (aw.take (k+1)))) by rw[fX.o];exact hrow2);have dV:=aa (show aK w2 w.heap.size _ from HX.drew.grown hg2 (fun e=>by have:=bU.lt _ e.symm;omega));have bS:=aa (show Bw w w2 from HB.drew.trans (hb2.mono (by omega)));have OH:=aa (show w2.cell? ⟨w.heap.size,8,none⟩=some (.slice (some ⟨g,o,none⟩) N cv)∧w2.cell? ⟨g,o+k*5,none⟩=some (.int .i64 d.id)∧w2.cell? ⟨g,o+k*5+1,none⟩=some (.int .i64 d.size) from ⟨dV.cell (j:=8) rfl,ae bS x0,ae bS x1⟩);have gq:=aa (show (wr.drew.alloc (.cells #[.int .i64 d.id,.int .i64 d.size,.slice none 0 0] 97)).cell? ⟨w.heap.size,8,none⟩=some (.slice (some ⟨g,o,none⟩) N cv)∧(wr.drew.alloc (.cells #[.int .i64 d.id,.int .i64 d.size,.slice none 0 0] 97)).cell? ⟨g,o+k*5,none⟩=some (.int .i64 d.id)∧(wr.drew.alloc (.cells #[.int .i64 d.id,.int .i64 d.size,.slice none 0 0] 97)).cell? ⟨g,o+k*5+1,none⟩=some (.int .i64 d.size) from ⟨ae (ar) kJ.1,ae (ar) kJ.2.1,ae (ar) kJ.2.2⟩);clear hrun hrow2 hb2 hg2 x0 x1 i1 i2 hd;go_upto_region 5 with fail;go_region_held3 (fun w'=>w'.cell? ⟨w.heap.size,8,none⟩=some (.slice (some ⟨g,o,none⟩) N cv)∧w'.cell? ⟨g,o+k*5,none⟩=some (.int .i64 d.id)∧w'.cell? ⟨g,o+k*5+1,none⟩=some (.int .i64 d.size))
    (first|exact kJ.o|exact gq.o|exact OH.o)
    (first|(refine bD rfl _ _ _ rfl rfl rfl dJ.o ?_))
   go_wp2_with fail;go_roundw
   case rel=>exact ⟨k+1,_,_,by omega,by go_num,rfl,mX.o,dV.o,bS.o⟩
   case measure=>simp[intOf];omega
theorem AO (x:List dx) (q:Int) (v1:Value) (w:World) (F:Nat→Prop) (h1:eQ (mask F w) v1 x):Calls prog 108 #[v1,.int .i64 q] w fun e w'=>∃v,e=.returned (.tuple #[v,.bool (findD x q).2])∧ve (mask F w') v (findD x q).1∧Bw w w':=by
 obtain ⟨p,cp,rfl,a1,a2,ha⟩:=h1;have HA:=aa ha;obtain ⟨N,hN⟩:=aG x.length;rw[hN] at a1;rw[hN];have hlc:=fG (n:=N) a2;have HN:=aa hN;clear ha hN a1 a2;go_enter func108,ntmps108;go_wp2_with fail;have kB:=aa (show Bw w (w.alloc (.cells #[.int .i64 0,.int .i64 0,.slice none 0 0,.slice none 0 0,.slice none 0 0] 75)) from ar);go_loop [6] (fun i=>∃k:Nat,k≤N∧i=.int .i64 k∧findD x q=findD (x.drop k) q) (fun i=>N-(intOf i).toNat)
 case atStart=>exact ⟨0,dO,rfl,by rw[List.drop_zero]⟩
 case round=>
  obtain ⟨k,hk,rfl,hall⟩:=hrel;have ed:=aa hall;clear hall;by_cases hlt:k<N
  case neg=>
   obtain rfl:k=N:=by omega
   have HF:=aa (show findD x q=(zeroV,false) by rw[ed.o,List.drop_of_length_le (by rw[HN.o];omega)];rfl);go_wp2_with fail;refine bodyPost_ret (v:=.tuple #[.agg #[.int .i64 0,.int .i64 0,.slice none 0 0,.slice none 0 0,.slice none 0 0],.bool false]) (by simp[results,results108,go_sem]) rfl ?_;refine ⟨_,by rw[HF.o],by rw[HF.o];exact FZ _,kB⟩
  have fN:(k:Int)<(N:Int):=by omega
  obtain ⟨s,hs⟩:=fx (l:=x) (k:=k) (by rw[HN.o];omega);obtain ⟨i1,i2,g,o,a,b,c,rfl,m0,m1,m2,m3,m4,e5⟩:=HA.o k s hs;have e0:=df _ _ m0;have e1:=df _ _ m1;have e2:=df _ _ m2;have e3:=df _ _ m3;have e4:=df _ _ m4;obtain ⟨pa,na,ca,pb,nb,cb,pc,nc,cc,rfl,rfl,rfl⟩:=aZ e5;have r0:=ae kB e0;have r1:=ae kB e1;have r2:=ae kB e2;have r3:=ae kB e3;have r4:=ae kB e4;have hg:=World.block_lt_of_cell? _ _ e0;have hd:x.drop k=s::x.drop (k+1):=by obtain ⟨hk2,hx⟩:=List.getElem?_eq_some_iff.1 hs;rw[List.drop_eq_getElem_cons hk2,hx]
  have HD:=aa hd;have HE:=aa (And.intro i1 (And.intro i2 e5));clear hs hd e5 i1 i2 m0 m1 m2 m3 m4;by_cases D5:s.id=q
  ·have hb:(s.id==q)=true:=by simpa using D5
   have HF:=aa (show findD x q=(s,true) by rw[ed.o,HD.o];unfold findD;rw[List.find?_cons_of_pos (p:=fun d:dx=>d.id==q) hb]);clear D5;go_wp2_with fail;have Xe:=(Below.refl w.heap.size w).alloc aT (.cells #[.int .i64 s.id,.int .i64 s.size,.slice pa na ca,.slice pb nb cb,.slice pc nc cc] 75);refine bodyPost_ret (v:=.tuple #[.agg #[.int .i64 s.id,.int .i64 s.size,.slice pa na ca,.slice pb nb cb,.slice pc nc cc],.bool true]) (by simp[results,results108,go_sem]) rfl ?_;exact ⟨_,by rw[HF.o],by rw[HF.o];exact ⟨_,_,_,rfl,HE.1,HE.2.1,HE.2.2.keep (aC Xe (fun _ _ h=>h))⟩,Xe⟩
  ·have hb:(s.id==q)=false:=by simpa using D5
   have HF:=aa (show findD x q=findD (x.drop (k+1)) q by rw[ed.o,HD.o];unfold findD;rw[List.find?_cons_of_neg (p:=fun d:dx=>d.id==q) (by simpa using D5)]);clear D5;go_wp2_with fail;go_round
   case rel=>exact ⟨k+1,by omega,by go_num,HF.o⟩
   case measure=>simp[intOf];omega
theorem OI (W:World):dW W (.slice none 0 0) []:=⟨none,0,rfl,aT,by unfold maxLen;omega,fun i x hx=>by simp at hx⟩
theorem Da {W:World} {a b:Nat} {a0 a1 a2 a3 a4 a5 a6 a7 a8 a9 b0 b1 b2 b3 b4 b5:Value} (h1:aK W a [a0,a1,a2,a3,a4,a5,a6,a7,a8,a9]) (h2:aK W b [b0,b1,b2,b3,b4,b5]):W.cell? ⟨a,0,none⟩=some a0∧W.cell? ⟨a,1,none⟩=some a1∧W.cell? ⟨a,2,none⟩=some a2∧W.cell? ⟨a,3,none⟩=some a3∧W.cell? ⟨a,4,none⟩=some a4∧W.cell? ⟨a,5,none⟩=some a5∧W.cell? ⟨a,6,none⟩=some a6∧W.cell? ⟨a,7,none⟩=some a7∧W.cell? ⟨a,8,none⟩=some a8∧W.cell? ⟨a,9,none⟩=some a9∧W.cell? ⟨b,0,none⟩=some b0∧W.cell? ⟨b,1,none⟩=some b1∧W.cell? ⟨b,2,none⟩=some b2∧W.cell? ⟨b,3,none⟩=some b3∧W.cell? ⟨b,4,none⟩=some b4∧W.cell? ⟨b,5,none⟩=some b5:=by obtain ⟨x0,x1,x2,x3,x4,x5,x6,x7,x8,x9⟩:=h1.ten;exact ⟨x0,x1,x2,x3,x4,x5,x6,x7,x8,x9,h2.cell rfl,h2.cell rfl,h2.cell rfl,h2.cell rfl,h2.cell rfl,h2.cell rfl⟩
theorem Wh (w:World) (c1 c2 c3 c4:List Value) (T1 T2 T3 T4:TypeId):aK ((((w.alloc (.cells c1.toArray T1)).alloc (.cells c2.toArray T2)).alloc (.cells c3.toArray T3)).alloc (.cells c4.toArray T4)) w.heap.size c1∧aK ((((w.alloc (.cells c1.toArray T1)).alloc (.cells c2.toArray T2)).alloc (.cells c3.toArray T3)).alloc (.cells c4.toArray T4)) (w.heap.size+1) c2∧aK ((((w.alloc (.cells c1.toArray T1)).alloc (.cells c2.toArray T2)).alloc (.cells c3.toArray T3)).alloc (.cells c4.toArray T4)) (w.heap.size+1+1) c3∧aK ((((w.alloc (.cells c1.toArray T1)).alloc (.cells c2.toArray T2)).alloc (.cells c3.toArray T3)).alloc (.cells c4.toArray T4)) (w.heap.size+1+1+1) c4∧Bw w ((((w.alloc (.cells c1.toArray T1)).alloc (.cells c2.toArray T2)).alloc (.cells c3.toArray T3)).alloc (.cells c4.toArray T4)):=by obtain ⟨h1,h2,h3,h4⟩:=NW w c1 c2 c3 T1 T2 T3;refine ⟨h1.alloc _,h2.alloc _,h3.alloc _,?_,h4.alloc (by simp;omega) _⟩;have:=aK.new (((w.alloc (.cells c1.toArray T1)).alloc (.cells c2.toArray T2)).alloc (.cells c3.toArray T3)) c4 T4;rw[World.size_alloc,World.size_alloc,World.size_alloc] at this;exact this
theorem EB (p:cm) (v:PV) (x:JB) (w:World) (F:Nat→Prop) (hF:∀q,w.heap.size≤q→F q) (h:br (mask F w) p v) (ls:bM p.aw) (tq:cG p=true) (Ip:p.disk.dead=false) (KW:x.act=0) (hi:1≤x.Fk∧x.Fk≤1000) (hn:0≤x.n∧x.n≤100000) (hf:qI x.Fk 0 (iW p.aw) = -1) (hl:p.aw.length<64) :
 Calls prog 61 #[eY p v,.agg x.cells.toArray] w (fun e w'=>∃t,Grown [] t∧uL F w {p with aw:=fe p.aw ⟨x.Fk,x.n,t⟩} [V4 0 eh 0] e w'):=by
 have HMP:=(bO.1 tq).2.2.1;have ZJ:p.aw.length≤64:=by
  have h1:=(bO.1 tq).2.2.2.2.2.2;unfold bX at h1
  split at h1
  ·rename_i h2;exact rD h2.2.2
  ·cases h1
 have eJ:=aa (fun W (hb:Bw w W)=>oY p v W ((h.keep df).keep (af hb)) ls);rw[tq] at eJ;have mN:=aa (fun W (hb:Bw w W)=>xU p v W ((h.keep df).keep (af hb)) (by omega));have Au:=aa (fun (v1:Value) (W:World) (h1:dw W v1 3 MD (iW p.aw))=>OD (iW p.aw) x v1 W h1 KW hi hn hf (by unfold iW;rw[List.length_map];exact hl));have KH:=aa (fun W (hb:Bw w W)=>AO p.aw x.Fk v.v W (FW F w.heap.size 4) (h.aw.keep (oA hb)));have Iq:=aa (fun W (hb:Bw w W) (hs:w.heap.size+4≤W.heap.size)=>xP p v x.Fk x.n [] (.slice none 0 0) W (FW F w.heap.size 4) (fun q hq=>⟨hF q (by omega),.inr (by omega)⟩) (h.keep (oA hb)) (OI W) (by simp) (fun y hy=>by simp at hy) ls (by unfold aQ;omega) (by unfold aQ;omega));have xH:=aa hF;obtain ⟨pk,nk,ck,pc,nc,cc,pp,np,cp,pv,nv,cv,pt,nt,ct,rfl⟩:=h.sl;clear h ls tq HMP ZJ hF hi hn hf hl;obtain ⟨⟨kept,cache,ah,keep,dead⟩,met,gen,aF,aw,tabs⟩:=p;obtain ⟨xa,xv,xd,xb,xn,xt⟩:=x;simp only at Ip KW;subst Ip;subst KW;unfold JB.cells eY at *;simp only at eJ mN Au KH Iq ⊢;obtain ⟨W1,hW1⟩:=aG ((((w.alloc (.cells #[.slice pk nk ck,.slice pc nc cc,.int .i64 ah,.slice pp np cp,.bool false,.int .i64 met,.int .i64 gen,.int .i64 aF,.slice pv nv cv,.slice pt nt ct] 30)).alloc (.cells #[.int .i64 0,.int .i64 xv,.int .i64 xd,.int .i64 xb,.int .i64 xn,.string xt] 111)).alloc (.cells #[.slice none 0 0,.slice none 0 0,.int .i64 0,.slice none 0 0,.bool false,.int .i64 0,.int .i64 0,.int .i64 0,.slice none 0 0,.slice none 0 0] 30)).alloc (.cells #[.int .i64 0,.string ⟨#[]⟩,.int .i64 0] 107));have aU:=aa (Wh w [.slice pk nk ck,.slice pc nc cc,.int .i64 ah,.slice pp np cp,.bool false,.int .i64 met,.int .i64 gen,.int .i64 aF,.slice pv nv cv,.slice pt nt ct] [.int .i64 0,.int .i64 xv,.int .i64 xd,.int .i64 xb,.int .i64 xn,.string xt] [.slice none 0 0,.slice none 0 0,.int .i64 0,.slice none 0 0,.bool false,.int .i64 0,.int .i64 0,.int .i64 0,.slice none 0 0,.slice none 0 0] [.int .i64 0,.string ⟨#[]⟩,.int .i64 0] 30 111 30 107);rw[hW1] at aU;have ee:=aa hW1;clear hW1;go_enter func61,ntmps61;go_upto_region 1 with fail;rw[ee.o];clear ee;obtain ⟨a0,a1,a2,a3,a4,a5,a6,a7,a8,a9⟩:=aU.1.ten;go_upto_region 5 with (go_at_call 15;(refine (eJ.o _ aU.o.2.2.2.2).mono ?_);(rintro e w2 ⟨rfl,hb⟩);(have bS:=aa (ak aU.o.2.2.2.2 hb));(have pK:=aa (aU.o.1.below hb));(have nD:=aa (aU.o.2.1.below hb));(have xN:=aa (aU.o.2.2.1.below hb));(have Fl:=aa (aU.o.2.2.2.1.below hb));(clear hb);(have b4:=pK.o.cell (j:=4) rfl));clear a0 a1 a2 a3 a4 a5 a6 a7 a8 a9 b4;have fJ:=aa (show Bw w w2.drew from bS.drew);have Vv:=aa (Da pK.drew nD.drew)
 go_region_held3 (fun w'=>w'.cell? ⟨w.heap.size,0,none⟩=some (.slice pk nk ck)∧w'.cell? ⟨w.heap.size,1,none⟩=some (.slice pc nc cc)∧w'.cell? ⟨w.heap.size,2,none⟩=some (.int .i64 ah)∧w'.cell? ⟨w.heap.size,3,none⟩=some (.slice pp np cp)∧w'.cell? ⟨w.heap.size,4,none⟩=some (.bool false)∧w'.cell? ⟨w.heap.size,5,none⟩=some (.int .i64 met)∧w'.cell? ⟨w.heap.size,6,none⟩=some (.int .i64 gen)∧w'.cell? ⟨w.heap.size,7,none⟩=some (.int .i64 aF)∧w'.cell? ⟨w.heap.size,8,none⟩=some (.slice pv nv cv)∧w'.cell? ⟨w.heap.size,9,none⟩=some (.slice pt nt ct)∧w'.cell? ⟨w.heap.size+1,0,none⟩=some (.int .i64 0)∧w'.cell? ⟨w.heap.size+1,1,none⟩=some (.int .i64 xv)∧w'.cell? ⟨w.heap.size+1,2,none⟩=some (.int .i64 xd)∧w'.cell? ⟨w.heap.size+1,3,none⟩=some (.int .i64 xb)∧w'.cell? ⟨w.heap.size+1,4,none⟩=some (.int .i64 xn)∧w'.cell? ⟨w.heap.size+1,5,none⟩=some (.string xt))
  (first|exact Vv.o|exact gq.o|exact lZ.o)
  (first|((with_reducible refine (mN.o _ fJ.o).mono ?_);(rintro e w3 ⟨v3,rfl,hr3,hb⟩);(obtain ⟨p3,c3,rfl,_,_⟩:=hr3.slice);(have vZ:=aa hr3);(have dF:=bh fJ hb);(have xO:=aa (pK.o.drew.below hb));(have qi:=aa (nD.o.drew.below hb));(have sq:=aa (xN.o.drew.below hb));(have SJ:=aa (Fl.o.drew.below hb));(have gq:=aa (Da xO.o qi.o));(clear hb hr3))|((with_reducible refine (Au.o _ _ vZ.o).mono ?_);(rintro e w4 ⟨rfl,hb⟩);(have fW:=bh dF hb);(have Jv:=aa (xO.o.below hb));(have pG:=aa (qi.o.below hb));(have pS:=aa (sq.o.below hb));(have HA4:=aa (SJ.o.below hb));(have lZ:=aa (Da Jv.o pG.o));(clear hb)))
 have c8:=Jv.cell (j:=8) rfl;have o0:=pG.cell (j:=0) rfl;have o1:=pG.cell (j:=1) rfl;go_upto_region 11 with (go_at_call 108;(refine (KH.o _ fW.o).mono ?_);(rintro e w6 ⟨v6,rfl,hv6,hb⟩);(obtain ⟨ta,tb,tc,rfl,OJ,pO,rG⟩:=hv6);(obtain ⟨qa,na,ka,qb,nb,kb,qc,Ko,kc,rfl,rfl,rfl⟩:=aZ rG);(have yu:=aa rG);(have HI:=aa (And.intro OJ pO));(have cU:=bh fW hb);(have Zv:=aa (Jv.o.below hb));(have Fg:=aa (pG.o.below hb));(have Hb:=aa (pS.o.below hb));(have HA6:=aa (HA4.o.below hb));(clear hb OJ pO rG));clear c8 o0 o1;obtain ⟨W7,yS⟩:=aG (w6.alloc (.cells #[.int .i64 (findD aw xv).1.id,.int .i64 (findD aw xv).1.size,.slice qa na ka,.slice qb nb kb,.slice qc Ko kc] 75));have dL:Bw w6 W7:=by rw[← yS];exact ar
 have HV7:=aa (show aK W7 w6.heap.size [.int .i64 (findD aw xv).1.id,.int .i64 (findD aw xv).1.size,.slice qa na ka,.slice qb nb kb,.slice qc Ko kc] by rw[← yS];exact aK.new w6 _ _);have HN7:=aa (yu.keep (aC dL (fun _ _ h=>h)));have fw:=bh cU dL;have VG:=aa (Zv.below dL);have pP:=aa (Fg.below dL);have Ew:=aa (Hb.below dL);have HA7:=aa (HA6.below dL);rw[yS];clear yS dL;have hS7:w.heap.size+4≤W7.heap.size:=by have:=HA7.lt;omega
 obtain ⟨a0,a1,a2,a3,a4,a5,a6,a7,a8,a9⟩:=VG.ten;have o0:=pP.cell (j:=0) rfl;have o1:=pP.cell (j:=1) rfl;have o2:=pP.cell (j:=2) rfl;have o3:=pP.cell (j:=3) rfl;have o4:=pP.cell (j:=4) rfl;have o5:=pP.cell (j:=5) rfl;obtain ⟨v0,v1,v2,v3,v4⟩:=HV7.five;have HL7:=aa (Iq.o W7 fw hS7);unfold eY at *;go_wp2_with (go_at_call 109;(refine HL7.o.mono ?_);(rintro e w5 ⟨t,hg,v5,rfl,KS,hb⟩);(have HG:=aa hg);(have yX:=aa KS);(obtain ⟨Hy,Hz,H7,H8,H9,Ia,Ib,Ic,Ie,Ig,Ih,Ii,Ij,Ik,Il,rfl⟩:=KS.sl);(unfold eY at *);(simp only at yX ⊢);(have bp:=bh fw hb);(have rQ:=aa (Ew.o.below hb));(have yP:=aa (HA7.o.below hb));(clear hb hg KS);(clear a0 a1 a2 a3 a4 a5 a6 a7 a8 a9 o0 o1 o2 o3 o4 o5 v0 v1 v2 v3 v4);(obtain ⟨z0,z1,z2,z3,z4,z5,z6,z7,z8,z9⟩:=rQ.o.ten);(obtain ⟨f0,f1,f2,f3,f4,f5,f6,f7,f8,f9⟩:=rQ.o.eP);(have r0:=yP.o.cell (j:=0) rfl;have r1:=yP.o.cell (j:=1) rfl;have r2:=yP.o.cell (j:=2) rfl;have r3:=yP.o.free 0;have r4:=yP.o.free 1;have r5:=yP.o.free 2));have HZe:=aa (rQ.cQ (.slice Hy Hz H7) (.slice H8 H9 Ia) (.int .i64 ah) (.slice Ib Ic Ie) (.bool false) (.int .i64 met) (.int .i64 gen) (.int .i64 aF) (.slice Ig Ih Ii) (.slice Ij Ik Il));have HAe:=aa (yP.xT (b':=w.heap.size+1+1) (by omega) (.slice Hy Hz H7) (.slice H8 H9 Ia) (.int .i64 ah) (.slice Ib Ic Ie) (.bool false) (.int .i64 met) (.int .i64 gen) (.int .i64 aF) (.slice Ig Ih Ii) (.slice Ij Ik Il));have HQe:=aa (yX.keep (gF (cS (b:=w.heap.size+1+1) (fun h=>by rcases h.2 with h9|h9 <;> omega) (.slice Hy Hz H7) (.slice H8 H9 Ia) (.int .i64 ah) (.slice Ib Ic Ie) (.bool false) (.int .i64 met) (.int .i64 gen) (.int .i64 aF) (.slice Ig Ih Ii) (.slice Ij Ik Il)) (aV (G:=fun q=>F q∧¬q=w.heap.size+1+1+1) fun q h=>⟨h.1,by rcases h.2 with h9|h9 <;> omega⟩)));have HBe:=aa (dZ bp (b:=w.heap.size+1+1) (by omega) (.slice Hy Hz H7) (.slice H8 H9 Ia) (.int .i64 ah) (.slice Ib Ic Ie) (.bool false) (.int .i64 met) (.int .i64 gen) (.int .i64 aF) (.slice Ig Ih Ii) (.slice Ij Ik Il));have HZg:=aa ((((HZe.far (b':=w.heap.size+1+1+1) (by omega) 0 (.int .i64 0)).far (b':=w.heap.size+1+1+1) (by omega) 1 (.string ⟨#[]⟩)).far (b':=w.heap.size+1+1+1) (by omega) 2 (.int .i64 0)));have HAg:=aa (((HAe.set 0 (.int .i64 0)).set 1 (.string ⟨#[]⟩)).set 2 (.int .i64 0));have HQg:=aa (HQe.keep (fun ad u hu=>aM (b:=w.heap.size+1+1+1) (j:=2) (u:=.int .i64 0) (fun h=>h.2 rfl) ad u (aM (b:=w.heap.size+1+1+1) (j:=1) (u:=.string ⟨#[]⟩) (fun h=>h.2 rfl) ad u (aM (b:=w.heap.size+1+1+1) (j:=0) (u:=.int .i64 0) (fun h=>h.2 rfl) ad u hu))));have X2:=aa (HQg.keep (aV (G:=F) fun q h=>h.1))
 have X3:=aa (((HBe.setCell (p:=⟨w.heap.size+1+1+1,0,none⟩) (by show w.heap.size≤w.heap.size+1+1+1;omega) (.int .i64 0)).setCell (p:=⟨w.heap.size+1+1+1,1,none⟩) (by show w.heap.size≤w.heap.size+1+1+1;omega) (.string ⟨#[]⟩)).setCell (p:=⟨w.heap.size+1+1+1,2,none⟩) (by show w.heap.size≤w.heap.size+1+1+1;omega) (.int .i64 0));have BU:=HZg.o;have MC:=HAg.o;unfold cQ at X2 X3 BU MC;obtain ⟨g0,g1,g2,g3,g4,g5,g6,g7,g8,g9⟩:=BU.ten;have k0:=MC.cell (j:=0) rfl;have k1:=MC.cell (j:=1) rfl;have k2:=MC.cell (j:=2) rfl;refine au (v:=.tuple #[.agg #[.slice Hy Hz H7,.slice H8 H9 Ia,.int .i64 ah,.slice Ib Ic Ie,.bool false,.int .i64 met,.int .i64 gen,.int .i64 aF,.slice Ig Ih Ii,.slice Ij Ik Il],.agg #[.int .i64 0,.string ⟨#[]⟩,.int .i64 0]]) ⟨t,HG,⟨.slice Hy Hz H7,.slice H8 H9 Ia,.slice Ib Ic Ie,.slice Ig Ih Ii,.slice Ij Ik Il⟩,rfl,X2,X3⟩ ?_;simp[results,results61,go_sem,g0,g1,g2,g3,g4,g5,g6,g7,g8,g9,k0,k1,k2]
theorem Ir (p:cm) (v:PV) (x:JB) (w:World) (F:Nat→Prop) (hF:∀q,w.heap.size≤q→F q) (h:br (mask F w) p v) (ls:bM p.aw) (tq:cG p=true) (Ip:p.disk.dead=false) (KW:x.act=4) (ht:x.text.size=256) (k:Nat) (s:Int×Int) (hf:qI x.Fk 0 (iW p.aw)=k) (hs:(iW p.aw)[k]?=some s) (hb0:0≤x.block∧x.block<s.2) (hs2:s.2≤100000) (d:dx) (Qp:(findD p.aw x.Fk).1=d) (hlen:(aA d.map).length≤1999) (Ul:FQ (aA d.map))
 (z:List UInt8) (pk0:Bool) (hE:Ex x.text.data.toList=(z,pk0,true)) (hz:z.length≤256) (c:List (List aj)) (ch a:Int) (hT:bR p.tabs (cg z.length) (-1)=(c,ch,a,true)) (hx:cO ⟨ch,a,z.length,pk0⟩=true)
 (d':aO) (hL:G9 p.disk (eE p ⟨ch,a,z.length,pk0⟩) ⟨z.toArray⟩ (cg z.length).toNat=(d',0)) (hG:(kd (aA d.map) x.block).2=false) :
 Calls prog 61 #[eY p v,.agg x.cells.toArray] w (fun e w'=>∃t,Grown (fB (aA d.map) x.block (cD ⟨ch,a,z.length,pk0⟩) false) t∧uL F w {p with disk:=d',aw:=fe p.aw ⟨d.id,d.size,t⟩,tabs:=c} [V4 0 eh 0] e w'):=by
 have HMP:=(bO.1 tq).2.2.1;have ZJ:p.aw.length≤64:=by
  have h1:=(bO.1 tq).2.2.2.2.2.2;unfold bX at h1
  split at h1
  ·rename_i h2;exact rD h2.2.2
  ·cases h1
 have eJ:=aa (fun W (hb:Bw w W)=>oY p v W ((h.keep df).keep (af hb)) ls);rw[tq] at eJ;have mN:=aa (fun W (hb:Bw w W)=>xU p v W ((h.keep df).keep (af hb)) (by omega));have Au:=aa (fun (v1:Value) (W:World) (h1:dw W v1 3 MD (iW p.aw))=>OE (iW p.aw) x k s v1 W h1 KW ht hf hs hb0);have KH:=aa (fun W (hb:Bw w W)=>AO p.aw x.Fk v.v W (FW F w.heap.size 4) (h.aw.keep (oA hb)));rw[Qp] at KH;have Iq:=aa (fun (dv:Value) (W:World) (hb:Bw w W) (hs:w.heap.size+4≤W.heap.size) (hd:ve (mask (FW F w.heap.size 4) W) dv d)=>EA p v d dv x W (FW F w.heap.size 4) (fun q hq=>⟨hF q (by omega),.inr (by omega)⟩) (h.keep (oA hb)) hd HMP ht ls hlen Ul (by unfold aQ;omega) z pk0 hE hz c ch a hT hx d' hL hG);have xH:=aa hF;obtain ⟨pk,nk,ck,pc,nc,cc,pp,np,cp,pv,nv,cv,pt,nt,ct,rfl⟩:=h.sl;clear h ls tq HMP ZJ hF ht hf hs hb0 hs2 Qp hlen Ul hE hz hT hx hL hG;obtain ⟨⟨kept,cache,ah,keep,dead⟩,met,gen,aF,aw,tabs⟩:=p;obtain ⟨xa,xv,xd,xb,xn,xt⟩:=x;simp only at Ip KW;subst Ip;subst KW;unfold JB.cells eY at *;simp only at eJ mN Au KH Iq ⊢;obtain ⟨W1,hW1⟩:=aG ((((w.alloc (.cells #[.slice pk nk ck,.slice pc nc cc,.int .i64 ah,.slice pp np cp,.bool false,.int .i64 met,.int .i64 gen,.int .i64 aF,.slice pv nv cv,.slice pt nt ct] 30)).alloc (.cells #[.int .i64 4,.int .i64 xv,.int .i64 xd,.int .i64 xb,.int .i64 xn,.string xt] 111)).alloc (.cells #[.slice none 0 0,.slice none 0 0,.int .i64 0,.slice none 0 0,.bool false,.int .i64 0,.int .i64 0,.int .i64 0,.slice none 0 0,.slice none 0 0] 30)).alloc (.cells #[.int .i64 0,.string ⟨#[]⟩,.int .i64 0] 107));have aU:=aa (Wh w [.slice pk nk ck,.slice pc nc cc,.int .i64 ah,.slice pp np cp,.bool false,.int .i64 met,.int .i64 gen,.int .i64 aF,.slice pv nv cv,.slice pt nt ct] [.int .i64 4,.int .i64 xv,.int .i64 xd,.int .i64 xb,.int .i64 xn,.string xt] [.slice none 0 0,.slice none 0 0,.int .i64 0,.slice none 0 0,.bool false,.int .i64 0,.int .i64 0,.int .i64 0,.slice none 0 0,.slice none 0 0] [.int .i64 0,.string ⟨#[]⟩,.int .i64 0] 30 111 30 107);rw[hW1] at aU;have ee:=aa hW1;clear hW1;go_enter func61,ntmps61;go_upto_region 1 with fail;rw[ee.o];clear ee;obtain ⟨a0,a1,a2,a3,a4,a5,a6,a7,a8,a9⟩:=aU.1.ten;go_upto_region 5 with (go_at_call 15;(refine (eJ.o _ aU.o.2.2.2.2).mono ?_);(rintro e w2 ⟨rfl,hb⟩);(have bS:=aa (ak aU.o.2.2.2.2 hb));(have pK:=aa (aU.o.1.below hb));(have nD:=aa (aU.o.2.1.below hb));(have xN:=aa (aU.o.2.2.1.below hb));(have Fl:=aa (aU.o.2.2.2.1.below hb));(clear hb);(have b4:=pK.o.cell (j:=4) rfl));clear a0 a1 a2 a3 a4 a5 a6 a7 a8 a9 b4;have fJ:=aa (show Bw w w2.drew from bS.drew);have Vv:=aa (Da pK.drew nD.drew)
 go_region_held3 (fun w'=>w'.cell? ⟨w.heap.size,0,none⟩=some (.slice pk nk ck)∧w'.cell? ⟨w.heap.size,1,none⟩=some (.slice pc nc cc)∧w'.cell? ⟨w.heap.size,2,none⟩=some (.int .i64 ah)∧w'.cell? ⟨w.heap.size,3,none⟩=some (.slice pp np cp)∧w'.cell? ⟨w.heap.size,4,none⟩=some (.bool false)∧w'.cell? ⟨w.heap.size,5,none⟩=some (.int .i64 met)∧w'.cell? ⟨w.heap.size,6,none⟩=some (.int .i64 gen)∧w'.cell? ⟨w.heap.size,7,none⟩=some (.int .i64 aF)∧w'.cell? ⟨w.heap.size,8,none⟩=some (.slice pv nv cv)∧w'.cell? ⟨w.heap.size,9,none⟩=some (.slice pt nt ct)∧w'.cell? ⟨w.heap.size+1,0,none⟩=some (.int .i64 4)∧w'.cell? ⟨w.heap.size+1,1,none⟩=some (.int .i64 xv)∧w'.cell? ⟨w.heap.size+1,2,none⟩=some (.int .i64 xd)∧w'.cell? ⟨w.heap.size+1,3,none⟩=some (.int .i64 xb)∧w'.cell? ⟨w.heap.size+1,4,none⟩=some (.int .i64 xn)∧w'.cell? ⟨w.heap.size+1,5,none⟩=some (.string xt))
  (first|exact Vv.o|exact gq.o|exact lZ.o)
  (first|((with_reducible refine (mN.o _ fJ.o).mono ?_);(rintro e w3 ⟨v3,rfl,hr3,hb⟩);(obtain ⟨p3,c3,rfl,_,_⟩:=hr3.slice);(have vZ:=aa hr3);(have dF:=bh fJ hb);(have xO:=aa (pK.o.drew.below hb));(have qi:=aa (nD.o.drew.below hb));(have sq:=aa (xN.o.drew.below hb));(have SJ:=aa (Fl.o.drew.below hb));(have gq:=aa (Da xO.o qi.o));(clear hb hr3))|((with_reducible refine (Au.o _ _ vZ.o).mono ?_);(rintro e w4 ⟨rfl,hb⟩);(have fW:=bh dF hb);(have Jv:=aa (xO.o.below hb));(have pG:=aa (qi.o.below hb));(have pS:=aa (sq.o.below hb));(have HA4:=aa (SJ.o.below hb));(have lZ:=aa (Da Jv.o pG.o));(clear hb)))
 have c8:=Jv.cell (j:=8) rfl;have o0:=pG.cell (j:=0) rfl;have o1:=pG.cell (j:=1) rfl;go_upto_region 11 with (go_at_call 108;(refine (KH.o _ fW.o).mono ?_);(rintro e w6 ⟨v6,rfl,hv6,hb⟩);(obtain ⟨ta,tb,tc,rfl,OJ,pO,rG⟩:=hv6);(obtain ⟨qa,na,ka,qb,nb,kb,qc,Ko,kc,rfl,rfl,rfl⟩:=aZ rG);(have yu:=aa rG);(have HI:=aa (And.intro OJ pO));(have cU:=bh fW hb);(have Zv:=aa (Jv.o.below hb));(have Fg:=aa (pG.o.below hb));(have Hb:=aa (pS.o.below hb));(have HA6:=aa (HA4.o.below hb));(clear hb OJ pO rG));clear c8 o0 o1;obtain ⟨W7,yS⟩:=aG (w6.alloc (.cells #[.int .i64 d.id,.int .i64 d.size,.slice qa na ka,.slice qb nb kb,.slice qc Ko kc] 75));have dL:Bw w6 W7:=by rw[← yS];exact ar
 have HV7:=aa (show aK W7 w6.heap.size [.int .i64 d.id,.int .i64 d.size,.slice qa na ka,.slice qb nb kb,.slice qc Ko kc] by rw[← yS];exact aK.new w6 _ _);have HN7:=aa (yu.keep (aC dL (fun _ _ h=>h)));have fw:=bh cU dL;have VG:=aa (Zv.below dL);have pP:=aa (Fg.below dL);have Ew:=aa (Hb.below dL);have HA7:=aa (HA6.below dL);rw[yS];clear yS dL;have hS7:w.heap.size+4≤W7.heap.size:=by have:=HA7.lt;omega
 obtain ⟨a0,a1,a2,a3,a4,a5,a6,a7,a8,a9⟩:=VG.ten;have o0:=pP.cell (j:=0) rfl;have o1:=pP.cell (j:=1) rfl;have o2:=pP.cell (j:=2) rfl;have o3:=pP.cell (j:=3) rfl;have o4:=pP.cell (j:=4) rfl;have o5:=pP.cell (j:=5) rfl;obtain ⟨v0,v1,v2,v3,v4⟩:=HV7.five;have HL7:=aa (Iq.o (.agg #[.int .i64 d.id,.int .i64 d.size,.slice qa na ka,.slice qb nb kb,.slice qc Ko kc]) W7 fw hS7 ⟨_,_,_,rfl,HI.1,HI.2,HN7⟩);unfold eY at *;go_wp2_with (go_at_call 113;(refine HL7.o.mono ?_);(rintro e w5 ⟨t,hg,v5,rfl,KS,hb⟩);(have HG:=aa hg);(have yX:=aa KS);(obtain ⟨Hy,Hz,H7,H8,H9,Ia,Ib,Ic,Ie,Ig,Ih,Ii,Ij,Ik,Il,rfl⟩:=KS.sl);(unfold eY V4 at *);(simp only at yX ⊢);(have bp:=bh fw hb);(have rQ:=aa (Ew.o.below hb));(have yP:=aa (HA7.o.below hb));(clear hb hg KS);(clear a0 a1 a2 a3 a4 a5 a6 a7 a8 a9 o0 o1 o2 o3 o4 o5 v0 v1 v2 v3 v4);(obtain ⟨z0,z1,z2,z3,z4,z5,z6,z7,z8,z9⟩:=rQ.o.ten);(obtain ⟨f0,f1,f2,f3,f4,f5,f6,f7,f8,f9⟩:=rQ.o.eP);(have r0:=yP.o.cell (j:=0) rfl;have r1:=yP.o.cell (j:=1) rfl;have r2:=yP.o.cell (j:=2) rfl;have r3:=yP.o.free 0;have r4:=yP.o.free 1;have r5:=yP.o.free 2));have HZe:=aa (rQ.cQ (.slice Hy Hz H7) (.slice H8 H9 Ia) (.int .i64 d'.ah) (.slice Ib Ic Ie) (.bool d'.dead) (.int .i64 met) (.int .i64 gen) (.int .i64 aF) (.slice Ig Ih Ii) (.slice Ij Ik Il));have HAe:=aa (yP.xT (b':=w.heap.size+1+1) (by omega) (.slice Hy Hz H7) (.slice H8 H9 Ia) (.int .i64 d'.ah) (.slice Ib Ic Ie) (.bool d'.dead) (.int .i64 met) (.int .i64 gen) (.int .i64 aF) (.slice Ig Ih Ii) (.slice Ij Ik Il));have HQe:=aa (yX.keep (gF (cS (b:=w.heap.size+1+1) (fun h=>by rcases h.2 with h9|h9 <;> omega) (.slice Hy Hz H7) (.slice H8 H9 Ia) (.int .i64 d'.ah) (.slice Ib Ic Ie) (.bool d'.dead) (.int .i64 met) (.int .i64 gen) (.int .i64 aF) (.slice Ig Ih Ii) (.slice Ij Ik Il)) (aV (G:=fun q=>F q∧¬q=w.heap.size+1+1+1) fun q h=>⟨h.1,by rcases h.2 with h9|h9 <;> omega⟩)));have HBe:=aa (dZ bp (b:=w.heap.size+1+1) (by omega) (.slice Hy Hz H7) (.slice H8 H9 Ia) (.int .i64 d'.ah) (.slice Ib Ic Ie) (.bool d'.dead) (.int .i64 met) (.int .i64 gen) (.int .i64 aF) (.slice Ig Ih Ii) (.slice Ij Ik Il));have HZg:=aa ((((HZe.far (b':=w.heap.size+1+1+1) (by omega) 0 (.int .i64 0)).far (b':=w.heap.size+1+1+1) (by omega) 1 (.string eh)).far (b':=w.heap.size+1+1+1) (by omega) 2 (.int .i64 0)));have HAg:=aa (((HAe.set 0 (.int .i64 0)).set 1 (.string eh)).set 2 (.int .i64 0));have HQg:=aa (HQe.keep (fun ad u hu=>aM (b:=w.heap.size+1+1+1) (j:=2) (u:=.int .i64 0) (fun h=>h.2 rfl) ad u (aM (b:=w.heap.size+1+1+1) (j:=1) (u:=.string eh) (fun h=>h.2 rfl) ad u (aM (b:=w.heap.size+1+1+1) (j:=0) (u:=.int .i64 0) (fun h=>h.2 rfl) ad u hu))));have X2:=aa (HQg.keep (aV (G:=F) fun q h=>h.1))
 have X3:=aa (((HBe.setCell (p:=⟨w.heap.size+1+1+1,0,none⟩) (by show w.heap.size≤w.heap.size+1+1+1;omega) (.int .i64 0)).setCell (p:=⟨w.heap.size+1+1+1,1,none⟩) (by show w.heap.size≤w.heap.size+1+1+1;omega) (.string eh)).setCell (p:=⟨w.heap.size+1+1+1,2,none⟩) (by show w.heap.size≤w.heap.size+1+1+1;omega) (.int .i64 0));have BU:=HZg.o;have MC:=HAg.o;unfold cQ at X2 X3 BU MC;obtain ⟨g0,g1,g2,g3,g4,g5,g6,g7,g8,g9⟩:=BU.ten;have k0:=MC.cell (j:=0) rfl;have k1:=MC.cell (j:=1) rfl;have k2:=MC.cell (j:=2) rfl;refine au (v:=.tuple #[.agg #[.slice Hy Hz H7,.slice H8 H9 Ia,.int .i64 d'.ah,.slice Ib Ic Ie,.bool d'.dead,.int .i64 met,.int .i64 gen,.int .i64 aF,.slice Ig Ih Ii,.slice Ij Ik Il],.agg #[.int .i64 0,.string eh,.int .i64 0]]) ⟨t,HG,⟨.slice Hy Hz H7,.slice H8 H9 Ia,.slice Ib Ic Ie,.slice Ig Ih Ii,.slice Ij Ik Il⟩,rfl,X2,X3⟩ ?_;simp[results,results61,go_sem,g0,g1,g2,g3,g4,g5,g6,g7,g8,g9,k0,k1,k2]
def fE (l:List ay) (n:Int):List (aB×Int):=(l.filter (fun p=>rX p.1&&decide ((bI p.1).chunk=n))).map (fun p=>(bI p.1,p.2))
noncomputable def bC (l:List dx) (n:Int):List (aB×Int):=fE (aX l) n
theorem O2 {p:ay} (h:l[k]?=some p) (h1:rX p.1=true) (h2:(bI p.1).chunk=n):fE (l.drop k) n=(bI p.1,p.2)::fE (l.drop (k+1)) n:=by unfold fE;rw[List.drop_eq_getElem_cons (List.getElem?_eq_some_iff.1 h).1,(List.getElem?_eq_some_iff.1 h).2,List.filter_cons_of_pos (by rw[h1,decide_eq_true h2];rfl),List.map_cons]
theorem Tb {p:ay} (h:l[k]?=some p) (h2:¬(bI p.1).chunk=n):fE (l.drop k) n=fE (l.drop (k+1)) n:=by unfold fE;rw[List.drop_eq_getElem_cons (List.getElem?_eq_some_iff.1 h).1,(List.getElem?_eq_some_iff.1 h).2,List.filter_cons_of_neg (by rw[decide_eq_false h2];simp)]
theorem O3 (h:l.length≤k):fE (l.drop k) n=[]:=by rw[List.drop_of_length_le h];rfl
def bH (n:Int):List (aB×Int)→List (List aj)×(Int→Option aB)→Option (List (List aj)×(Int→Option aB))
 |[],s=>some s
 |x::l,s=>if (bR s.1 (cg x.1.size) n).2.2.2=true then bH n l ((bR s.1 (cg x.1.size) n).1,qP s.2 (cD x.1) ⟨(bR s.1 (cg x.1.size) n).2.1,(bR s.1 (cg x.1.size) n).2.2.1,x.1.size,x.1.packed⟩) else none
theorem EI {l:List (aB×Int)} {x:aB×Int}:∀ {s s':List (List aj)×(Int→Option aB)},bH n l s=some s'→bH n (l++[x]) s=bH n [x] s':=by
 induction l with
 |nil=>intro s s' h;unfold bH at h;cases h;rfl
 |cons a l ih=>
  intro s s' h;unfold bH at h;rw[List.cons_append,bH];by_cases e:(bR s.1 (cg a.1.size) n).2.2.2=true
  ·rw[if_pos e] at h ⊢;exact ih h
  ·rw[if_neg e] at h;cases h
def kQ (s:ByteArray) (left:Int):ByteArray:=if left<32 then s.extract 0 left.toNat++⟨(List.replicate (32-left).toNat (0:UInt8)).toArray⟩ else s
def gM:Nat→aO→Int→Int→Int→aO×Int
 |0,d,_,_,_=>(d,0)
 |k+1,d,a,b,left=>if left≤0 then (d,0) else if ¬(gw d a).2=0 then (d,(gw d a).2) else
  if ¬(cF d b (kQ (gw d a).1 left)).2=0 then cF d b (kQ (gw d a).1 left) else gM k (cF d b (kQ (gw d a).1 left)).1 (a+1) (b+1) (left-32)
def mC (met:Int) (d:aO) (x dst:aB):aO×Int:=gM (cg x.size).toNat d (2+2*met+16*x.chunk+x.pos) (2+2*met+16*dst.chunk+dst.pos) x.size
def bB (met:Int) (f:Int→Option aB):List (aB×Int)→aO→aO×Int
 |[],d=>(d,0)
 |x::l,d=>if ¬(mC met d x.1 ((f (cD x.1)).getD aB.zero)).2=0 then mC met d x.1 ((f (cD x.1)).getD aB.zero) else bB met f l (mC met d x.1 ((f (cD x.1)).getD aB.zero)).1
theorem EJ {met:Int} {f:Int→Option aB} {l m:List (aB×Int)}:∀ {d d':aO},bB met f l d=(d',0)→bB met f (l++m) d=bB met f m d':=by
 induction l with
 |nil=>intro d d' h;unfold bB at h;cases h;rfl
 |cons a l ih=>
  intro d d' h;unfold bB at h;rw[List.cons_append,bB];by_cases e:¬(mC met d a.1 ((f (cD a.1)).getD aB.zero)).2=0
  ·rw[if_pos e] at h;exact absurd (by rw[h]) e
  ·rw[if_neg e] at h ⊢;exact ih h
def ju (c:List (List aj)) (dst x:aB) (often:Int):List (List aj):=
 let c1:=c.set dst.chunk.toNat (((c[dst.chunk.toNat]?).getD []).map (cJ dst.pos often))
 let c2:=c1.set x.chunk.toNat (((c1[x.chunk.toNat]?).getD []).map (cJ x.pos 1))
 if (fM c2 x (-1)).2=true then (fM c2 x (-1)).1 else c2
def cH (f:Int→Option aB) (l:List (aB×Int)) (c:List (List aj)):List (List aj):=l.foldl (fun c x=>ju c ((f (cD x.1)).getD aB.zero) x.1 x.2) c
def ie (f:Int→Option aB) (v:Int):Int:=match f v with|some y=>cD y|none=>v
mutual
def iX (f:Int→Option aB):ag→ag
 |.mk ks vs kids=>.mk ks (vs.map (ie f)) (Wp f kids)
def Wp (f:Int→Option aB):List ag→List ag
 |[]=>[]
 |t::l=>iX f t::Wp f l
end
theorem oB (f:Int→Option aB):∀l:List ag,Wp f l=l.map (iX f)
 |[]=>rfl
 |t::l=>by rw[Wp,List.map_cons,oB f l]
def mD (f:Int→Option aB) (v:dx):dx:=⟨v.id,v.size,iX f v.map⟩
noncomputable def dC (p:cm) (n:Int):cm×Int:=
 if cG p=false then (Ep,1) else if p.disk.dead=true then (p,90) else if n<0∨(p.tabs.length:Int)≤n then (p,1) else
 match bH n (bC p.aw n) (p.tabs,fun _=>none) with
 |none=>(p,210)
 |some s=>if ¬(bB p.met s.2 (bC p.aw n) p.disk).2=0 then ({p with disk:=(bB p.met s.2 (bC p.aw n) p.disk).1},(bB p.met s.2 (bC p.aw n) p.disk).2) else
  ({p with disk:=(bB p.met s.2 (bC p.aw n) p.disk).1,tabs:=cH s.2 (bC p.aw n) s.1,aw:=p.aw.map (mD s.2)},0)
theorem Dn (f:Int→Option aB) (t:ag):(iX f t).keys=t.keys:=by cases t;rfl
theorem A8 (f:Int→Option aB) (t:ag):∀low,bE (iX f t) low=bE t low:=by
 induction t using ag.ind with
 |h ks vs kids ih=>
  intro low;have hl:oK (kids.map (iX f)) ks=oK kids ks:=by
   rw[Bool.eq_iff_iff,eT,eT];constructor
   ·intro h j t ht
    have:=h j (iX f t) (by rw[List.getElem?_map,ht];rfl);rw[ih t (List.mem_of_getElem? ht),Dn] at this;exact this
   ·intro h j t ht
    rw[List.getElem?_map] at ht;cases hk:kids[j]? with
    |none=>rw[hk] at ht;cases ht
    |some s=>rw[hk] at ht;cases ht;rw[ih s (List.mem_of_getElem? hk),Dn];exact h j s hk
  simp only[iX,oB,bE,List.length_map,hl]
def Wx (f:Int→Option aB) (p:ay):ay:=(p.1,ie f p.2)
theorem mH (f:Int→Option aB) (t:ag):aA (iX f t)=(aA t).map (Wx f):=by
 induction t using ag.ind with
 |h ks vs kids ih=>
  have hl:bP (kids.map (iX f))=(bP kids).map (Wx f):=by rw[bW,bW,List.map_map,List.map_flatten,List.map_map];congr 1;exact List.map_congr_left fun t ht=>ih t ht
  simp only[iX,oB,aA,List.length_map,hl,List.map_append];congr 1
  split
  ·rw[List.zip_map_right]
   rfl
  ·rfl
theorem Dp (f:Int→Option aB):∀(l:List ag) (m d:Int),(∀t∈l,∀m,cC (iX f t) m=cC t m)→uf (l.map (iX f)) m d=uf l m d
 |[],m,d,_=>rfl
 |t::l,m,d,h=>by rw[List.map_cons,uf,uf,h t (List.mem_cons_self ..) m,Dp f l m d fun s hs=>h s (List.mem_cons_of_mem _ hs)]
theorem Pl (f:Int→Option aB):∀(l:List ag) (m:Int),(∀t∈l,∀m,cC (iX f t) m=cC t m)→lg (l.map (iX f)) m=lg l m
 |[],m,_=>rfl
 |t::l,m,h=>by rw[List.map_cons,lg,lg,h t (List.mem_cons_self ..) m,Dp f l m _ fun s hs=>h s (List.mem_cons_of_mem _ hs)]
theorem Dq (f:Int→Option aB) (t:ag):∀m,cC (iX f t) m=cC t m:=by
 induction t using ag.ind with
 |h ks vs kids ih=>intro m;simp only[iX,oB,cC];rw[Pl f kids _ ih]
theorem Grown.rew (h:Grown l t) (f:Int→Option aB):Grown (l.map (Wx f)) (iX f t):=⟨by rw[mH,h.1],by rw[Dq];exact h.2.1,by rw[A8];exact h.2.2⟩
def eZ (w:World) (Z:Nat→Prop) (v:Value) (c:List (List aj)):Prop:=
 ∃rs:List vT,jG w 0 v c.length rs c∧(∀g,v.ownBlock=some g→Z g)∧∀(i:Nat) s,rs[i]?=some s→∀g,(gY s).ownBlock=some g→Z g
theorem eZ.mono {Z':Nat→Prop} (h:eZ w Z v c) (hz:∀q,Z q→Z' q):eZ w Z' v c:=by obtain ⟨rs,h1,h2,h3⟩:=h;exact ⟨rs,h1,fun g e=>hz g (h2 g e),fun i s hs g e=>hz g (h3 i s hs g e)⟩
theorem A9 (h:∀g,v.ownBlock=some g→ro≠some g):v.ownBlock=none∨v.ownBlock≠ro:=by
 cases e:v.ownBlock with
 |none=>exact .inl rfl
 |some g=>exact .inr (fun h2=>h g e h2.symm)
theorem eZ.kept (h:eZ w Z v c) (hg:w.grownBy w' ro) (hz:∀q,Z q→ro≠some q):eZ w' Z v c:=by obtain ⟨rs,⟨h1,h2,h3,h4⟩,h5,h6⟩:=h;refine ⟨rs,⟨h1,h2.kept hg (A9 fun g e=>hz g (h5 g e)),fun i s t hs ht=>(h3 i s t hs ht).kept hg (A9 fun g e=>hz g (h6 i s hs g e)),h4⟩,h5,h6⟩
theorem eZ.low (h:eZ w Z v c) (hb:Bw w w'):eZ w' Z v c:=h.kept (aS hb none) (fun q _ e=>by cases e)
theorem mB.tin (h:mB w B v c):eZ w (fun q=>B≤q∧q<w.heap.size) v c:=by
 rcases h with ⟨rfl,rfl⟩|⟨g,cap,rs,rfl,h⟩
 ·exact ⟨[],⟨rfl,World.ownsRow_nil _ _ _ _,fun i s t hs=>by simp at hs,fun i j s s' _ hs=>by simp at hs⟩,fun g e=>by simp[Value.ownBlock] at e,fun i s hs=>by simp at hs⟩
 ·obtain ⟨h1,h2,h3,h4⟩:=h
  refine ⟨rs,⟨h1,bz dO h2,fun i s t hs ht=>bz dO (h3 i s t hs ht),h4⟩,fun g e=>h2.lt g e,fun i s hs g e=>?_⟩;have hi:=(List.getElem?_eq_some_iff.1 hs).1;rw[h1] at hi;exact (h3 i s _ hs (List.getElem?_eq_getElem hi)).lt g e
theorem Lf {l:List aj} (h:w.ownsRow B 52 4 v l.length (aI l)) (hF:∀g,v.ownBlock=some g→F g):dA (mask F w) v l:=by
 rcases aJ h with ⟨hv,hn,_⟩|⟨g,cap,hv⟩
 ·have hl:l=[]:=List.eq_nil_of_length_eq_zero hn
  subst hl;rw[hv];exact G0 _
 ·have hg:=hF g (by rw[hv];rfl)
  obtain ⟨p,c,e,h2,h3,h4⟩:=fj h;refine ⟨p,c,e,h2,h3,fun i x hx=>?_⟩;obtain ⟨g',o',e1,k0,k1,k2,k3⟩:=h4 i x hx;have:g'=g:=by rw[hv,e1] at e;injection e with e _ _;injection e with e;injection e with e;exact e.symm
  subst this;exact ⟨g',o',e1,aq.2 ⟨hg,k0⟩,aq.2 ⟨hg,k1⟩,aq.2 ⟨hg,k2⟩,aq.2 ⟨hg,k3⟩⟩
theorem eZ.at {w:World} {Z:Nat→Prop} {v:Value} {c:List (List aj)} (h:eZ w Z v c):dH (mask Z w) v c:=by
 obtain ⟨rs,⟨h1,h2,h3,h4⟩,h5,h6⟩:=h;rcases aJ h2 with ⟨hv,hn,_⟩|⟨g,cap,hv⟩
 ·have hc:c=[]:=List.eq_nil_of_length_eq_zero hn
  subst hc;rw[hv];exact rL _
 ·subst hv
  obtain ⟨_,_,_,c3,c4,_⟩:=bl h2;refine uI (n:=c.length) rfl c3 c4 h1 fun i s t hs ht=>⟨⟨g,0,rfl,?_⟩,?_⟩
  ·have hx:(bk GZ rs)[i]?=some (gY s):=by
    have:=eN (f:=GZ) (k:=1) lB rs i s 0 (gY s) hs rfl
    simpa using this
   obtain ⟨h7,h8⟩:=List.getElem?_eq_some_iff.1 hx;have:=bG h2 i h7;rw[h8] at this;exact aq.2 ⟨h5 g rfl,by rw[Nat.zero_add];exact this⟩
  ·exact Lf (h3 i s t hs ht) fun g e=>h6 i s hs g e
theorem eZ.row (h:eZ w Z v c) {t:List aj} (ht:c[i]?=some t):∃(s:vT) (g cap:Nat),v=.slice (some ⟨g,0,none⟩) c.length cap∧Z g∧w.cell? ⟨g,i,none⟩=some (gY s)∧w.ownsRow 0 52 4 (gY s) t.length (aI t)∧(∀q,(gY s).ownBlock=some q→Z q∧q≠g) ∧
 ∀(w':World) (t':List aj),w.grownBy w' (gY s).ownBlock→w'.ownsRow 0 52 4 (gY s) t'.length (aI t')→eZ w' Z v (c.set i t'):=by
 obtain ⟨rs,⟨h1,h2,h3,h4⟩,h5,h6⟩:=h;have hi:=(List.getElem?_eq_some_iff.1 ht).1;rcases aJ h2 with ⟨_,hn,_⟩|⟨g,cap,hv⟩
 ·omega
 subst hv;have hs:rs[i]?=some (rs[i]'(by rw[h1];exact hi)):=List.getElem?_eq_getElem _;obtain ⟨s,hse⟩:=aG (rs[i]'(by rw[h1];exact hi));rw[hse] at hs;have hr:=h3 i s t hs ht;have TY:=cP hr h2 (by decide);have hx:(bk GZ rs)[i]?=some (gY s):=by
  have:=eN (f:=GZ) (k:=1) lB rs i s 0 (gY s) hs rfl
  simpa using this
 refine ⟨s,g,cap,rfl,h5 g rfl,?_,hr,fun q e=>⟨h6 i s hs q e,fun e2=>?_⟩,fun w' t' hg J4=>⟨rs,?_,fun q e=>h5 q e,h6⟩⟩
 ·obtain ⟨h7,h8⟩:=List.getElem?_eq_some_iff.1 hx
  have:=bG h2 i h7;rw[h8] at this;exact this
 ·rcases TY with h9|h9
  ·rw[h9] at e;cases e
  ·exact h9 (by rw[e,e2];rfl)
 rw[List.length_set];refine ⟨h1,h2.kept hg ?_,fun j s2 u hs2 hu=>?_,h4⟩
 ·right;intro e
  rcases TY with h9|h9
  ·rw[h9] at e;cases e
  ·exact h9 e.symm
 ·by_cases e:i=j
  ·subst e
   rw[List.getElem?_set_self hi] at hu;rw[hs] at hs2;cases hu;cases hs2;exact J4
  ·rw[List.getElem?_set_ne e] at hu
   refine (h3 j s2 u hs2 hu).kept hg ?_;exact h4 j i s2 s (fun h=>e h.symm) hs2 hs
theorem count_nil (a n:Int) (w:World):Calls prog 84 #[.slice none 0 0,.int .i64 a,.int .i64 n] w fun e w'=>e=.returned (.tuple #[])∧w'=w:=by
 go_enter func84,ntmps84;go_wp2_with fail;go_loopw [9] (fun i wr=>i=.int .i64 0∧wr=w) (fun _ _=>0)
 case atStart=>exact ⟨rfl,rfl⟩
 case round=>obtain ⟨rfl,rfl⟩:=hrel;go_wp2_with fail;go_end0;exact ⟨rfl,rfl⟩
theorem Ba {t:List aj} {s:vT} {a:Int} (hr:w.ownsRow 0 52 4 (gY s) t.length (aI t)) (hl:t.length≤1000)
 (hb:∀(w':World) (t':List aj),w.grownBy w' (gY s).ownBlock→w'.ownsRow 0 52 4 (gY s) t'.length (aI t')→eZ w' Z v (c.set i t')) :
 Calls prog 84 #[gY s,.int .i64 a,.int .i64 n] w fun e w'=>e=.returned (.tuple #[])∧eZ w' Z v (c.set i (t.map (cJ a n)))∧w.grownBy w' (gY s).ownBlock:=by
 rcases aJ hr with ⟨hv,hn,_⟩|⟨g,cap,hv⟩
 ·have ht:t=[]:=List.eq_nil_of_length_eq_zero hn
  subst ht;rw[hv] at hr hb ⊢;refine (count_nil a n w).mono ?_;rintro e w' ⟨rfl,rfl⟩;exact ⟨rfl,hb _ _ (World.grownBy.refl _ _) hr,World.grownBy.refl _ _⟩
 ·rw[hv] at hr hb ⊢
  refine (EF t a n 0 g cap w hr hl).mono ?_;rintro e w' ⟨rfl,h1,h2⟩;exact ⟨rfl,hb _ _ h2 (by rw[List.length_map];exact h1),h2⟩
structure dn (Z:Nat→Prop) (w w':World):Prop where
 os:w'.os=w.os
 tape:w'.tape=w.tape
 output:w'.output=w.output
 size:w.heap.size≤w'.heap.size
 block:∀k,k<w.heap.size→¬Z k→w'.heap[k]?=w.heap[k]?
theorem dn.eI (h:Bw w w'):dn Z w w':=⟨h.os,h.tape,h.output,h.size,fun k hk _=>h.block k hk⟩
theorem dn.gB (h:w.grownBy w' ro) (hr:∀r,ro=some r→Z r):dn Z w w':=⟨h.os,h.tape,h.output,h.size,fun k hk hz=>h.block k hk (fun e=>hz (hr k e.symm))⟩
theorem dn.trans {a b c:World} (h:dn Z a b) (k:dn Z b c):dn Z a c:=
 ⟨k.os.trans h.os,k.tape.trans h.tape,k.output.trans h.output,Nat.le_trans h.size k.size,fun i hi hz=>(k.block i (Nat.lt_of_lt_of_le hi h.size) hz).trans (h.block i hi hz)⟩
theorem dn.mono {Z':Nat→Prop} (h:dn Z w w') (hz:∀q,Z q→Z' q):dn Z' w w':=⟨h.os,h.tape,h.output,h.size,fun k hk h2=>h.block k hk (fun h3=>h2 (hz k h3))⟩
theorem za {W:World} {b g:Nat} {cs:List Value} {a0 a1 u:Value} (h:aK W b (a0::a1::cs)) (h2:W.cell? ⟨g,i,none⟩=some u):W.cell? ⟨b,0,none⟩=some a0∧W.cell? ⟨b,1,none⟩=some a1∧W.cell? ⟨g,i,none⟩=some u:=⟨h.cell rfl,h.cell rfl,h2⟩
theorem Po (c:List (List aj)) (v1:Value) (dst x:aB) (often:Int) (w:World) (Z:Nat→Prop) (h:eZ w Z v1 c) (hZ:∀q,Z q→q<w.heap.size) (hl:∀t∈c,t.length≤1000) (hd:0≤dst.chunk∧dst.chunk<c.length) (hx:0≤x.chunk∧x.chunk<c.length) (hc:c.length≤1000000) :
 Calls prog 33 #[v1,dst.agg,x.agg,.int .i64 often] w fun e w'=>∃v',e=.returned v'∧eZ w' (fun q=>Z q∨(w.heap.size≤q∧q<w'.heap.size)) v' (ju c dst x often)∧dn Z w w':=by
 obtain ⟨dc,dp,ds,dk⟩:=dst;obtain ⟨xc,xp,xs,xk⟩:=x;simp only at hd hx;obtain ⟨dc,rfl⟩:∃n:Nat,dc=n:=⟨dc.toNat,by omega⟩
 obtain ⟨xc,rfl⟩:∃n:Nat,xc=n:=⟨xc.toNat,by omega⟩
 obtain ⟨N,hN⟩:=aG c.length;obtain ⟨r,hr⟩:=aG (ju c ⟨dc,dp,ds,dk⟩ ⟨xc,xp,xs,xk⟩ often);rw[hr];unfold ju at hr;simp only[Int.toNat_natCast] at hr;obtain ⟨t1,Ms⟩:∃t,c[dc]?=some t:=⟨_,List.getElem?_eq_getElem (by omega)⟩
 rw[Ms,Option.getD_some] at hr;obtain ⟨c1,hc1⟩:=aG (c.set dc (t1.map (cJ dp often)));rw[hc1] at hr;have Bz:c1.length=N:=by rw[← hc1,List.length_set,hN]
 obtain ⟨t2,R2⟩:∃t,c1[xc]?=some t:=⟨_,List.getElem?_eq_getElem (by omega)⟩
 rw[R2,Option.getD_some] at hr;obtain ⟨c2,hc2⟩:=aG (c1.set xc (t2.map (cJ xp 1)));rw[hc2] at hr;have hb1:t1.length≤1000:=hl t1 (List.mem_of_getElem? Ms);have hb2:t2.length≤1000:=by
  have hm:=List.mem_of_getElem? R2;rw[← hc1] at hm;rcases List.mem_or_eq_of_mem_set hm with h|h
  ·exact hl _ h
  ·rw[h,List.length_map];exact hb1
 have HR:=aa hr;have sX:=aa hc1;have pB:=aa hc2;have HT2:=aa R2;have xg:=aa Bz;have HZ:=aa hZ;unfold aB.agg;simp only;obtain ⟨W1,hW1⟩:=aG ((w.alloc (.cells #[.int .i64 dc,.int .i64 dp,.int .i64 ds,.bool dk] 50)).alloc (.cells #[.int .i64 xc,.int .i64 xp,.int .i64 xs,.bool xk] 50));have aU:=aa (yH w [.int .i64 dc,.int .i64 dp,.int .i64 ds,.bool dk] [.int .i64 xc,.int .i64 xp,.int .i64 xs,.bool xk] 50 50);rw[hW1] at aU;have ee:=aa hW1;have hT:=h.low (aU.2.2.drew);obtain ⟨⟨s1,s2,s3⟩,g,cap,rfl,hg,hcell,hrow,RK,hback⟩:=hT.row Ms;have HC:=aa (Ba (a:=dp) (n:=often) hrow hb1 hback);have lZ:=aa RK;rw[hc1] at HC;have HG:=aa (HZ.o g hg);have MG:=aa hcell;unfold gY at HC lZ MG;simp only at HC lZ MG;rw[hN] at HC hd hx ⊢;have D9:(0:Int)≤(dc:Int):=by omega
 have QP:(dc:Int)<(N:Int):=hd.2;have hx1:(0:Int)≤(xc:Int):=by omega
 have hx2:(xc:Int)<(N:Int):=hx.2;have hNl:(N:Int)≤9223372036854775807:=by omega
 clear h hT hback hrow hcell RK hr hc1 hc2 Ms R2 Bz hW1 hl hZ hd hx hb1 hg;go_enter func33,ntmps33;go_upto_region 1 with fail;rw[ee.o];clear ee;have gq:=aa (za aU.1.drew MG);go_region_held3 (fun w'=>w'.cell? ⟨w.heap.size,0,none⟩=some (.int .i64 dc)∧w'.cell? ⟨w.heap.size,1,none⟩=some (.int .i64 dp)∧w'.cell? ⟨g,dc,none⟩=some (.slice s1 s2 s3))
  (first|(with_reducible exact gq.o)|(with_reducible exact OH.o))
  (first|((with_reducible refine HC.o.mono ?_);rintro e w2 ⟨rfl,ht,hgr⟩;have UU:=aa hgr;have HT:=aa ht;have hne:∀k,w.heap.size≤k→some k≠(Value.slice s1 s2 s3).ownBlock:=(fun k hk e=>by have h1:=(lZ.o k e.symm).1;have:=HZ.o k h1;omega);have ZU:=aa (aU.o.1.drew.grown hgr (hne _ aT));have Xc:=aa (aU.o.2.1.drew.grown hgr (hne _ (Nat.le_succ _)));have OH:=aa (za ZU.o (hgr.cell MG.o (fun e=>(lZ.o g e.symm).2 rfl)));clear ht hgr hne))
 go_upto_region 2 with fail;have hT2:=HT.low (show Bw w2 w2.drew from aH.drew);obtain ⟨⟨q1,q2,q3⟩,g2,SP,Qg,hg2,Th,hrow2,afG,Ti⟩:=hT2.row HT2.o;obtain rfl:g2=g:=by simp only[Value.slice.injEq,Option.some.injEq,Addr.mk.injEq,and_true] at Qg;exact Qg.1.symm
 have Vl:=aa (Ba (a:=xp) (n:=1) hrow2 hb2 Ti);rw[pB.o] at Vl;have Tj:=aa afG;have ET:=aa Th;unfold gY at Vl Tj ET;simp only at Vl Tj ET;have akV:=aa (za Xc.drew ET);clear hT2 Qg hg2 Th hrow2 afG Ti
 try clear hHeld
 go_region_held3 (fun w'=>w'.cell? ⟨w.heap.size+1,0,none⟩=some (.int .i64 xc)∧w'.cell? ⟨w.heap.size+1,1,none⟩=some (.int .i64 xp)∧w'.cell? ⟨g2,xc,none⟩=some (.slice q1 q2 q3))
  (first|(with_reducible exact akV.o)|(with_reducible exact UF.o))
  (first|((with_reducible refine Vl.o.mono ?_);rintro e w4 ⟨rfl,ht,hgr⟩;have Qj:=aa hgr;have Zy:=aa ht;have hne:∀k,w.heap.size≤k→some k≠(Value.slice q1 q2 q3).ownBlock:=(fun k hk e=>by have h1:=(Tj.o k e.symm).1;have:=HZ.o k h1;omega);have afH:=aa (Xc.o.drew.grown hgr (hne _ (Nat.le_succ _)));have UF:=aa (za afH.o (hgr.cell ET.o (fun e=>(Tj.o g2 e.symm).2 rfl)));clear ht hgr hne))
 have pS:=aa (show dn Z w w4 from (((dn.eI aU.2.2.drew).trans (dn.gB UU (fun q e=>(lZ q e).1))).trans (dn.eI (show Bw w2 w2.drew from aH.drew))).trans (dn.gB Qj (fun q e=>(Tj q e).1)));obtain ⟨x0,x1,x2,x3⟩:=afH.four;have Wn:=aa (La c2 ⟨xc,xp,xs,xk⟩ _ w4 (Zy.at.keep df));unfold aB.agg at Wn;simp only at Wn;obtain ⟨⟨c3,bo⟩,htt⟩:∃q,fM c2 ⟨xc,xp,xs,xk⟩ (-1)=q:=⟨_,rfl⟩
 rw[htt] at Wn HR;simp only at Wn HR;clear htt;cases bo with
 |true=>have vZ:=aa (show c3=r by rw[← HR.o,if_pos rfl]);go_upto_region 4 with (go_at_call 85;(refine Wn.o.mono ?_);rintro e w5 ⟨v5,rfl,ho,hb⟩;have BW:=aa ho;have bp:=aa hb;clear ho hb);go_wp2_with fail;go_ret;exact ⟨_,rfl,by rw[← vZ.o];exact BW.tin.mono (fun q h=>.inr ⟨Nat.le_trans pS.size h.1,h.2⟩),pS.trans (dn.eI bp)⟩
 |false=>have vZ:=aa (show c2=r by rw[← HR.o,if_neg (by simp)]);go_upto_region 4 with (go_at_call 85;(refine Wn.o.mono ?_);rintro e w5 ⟨v5,rfl,ho,hb⟩;have BW:=aa ho;have bp:=aa hb;clear ho hb);go_wp2_with fail;go_ret;exact ⟨_,rfl,by rw[← vZ.o];exact (Zy.low bp).mono (fun q h=>.inl h),pS.trans (dn.eI bp)⟩
inductive fR (w:World):(Nat→Prop)→ag→Value→Value→Value→Prop
 |mk (F:Nat→Prop) (ks vs:List Int) (kids:List ag) (a b c:Value) (xs:List Value) (G:Nat→Nat→Prop) (X:Nat→Value×Value×Value)
  (ha:w.ownsRow 0 3 1 a ks.length (bw ks)) (hb:w.ownsRow 0 3 1 b vs.length (bw vs)) (hc:w.ownsRow 0 73 3 c kids.length xs)
  (ba:∀x∈ks,aQ x) (bb:∀x∈vs,aQ x)
  (fa:∀g,a.ownBlock=some g→F g) (fb:∀g,b.ownBlock=some g→F g) (fc:∀g,c.ownBlock=some g→F g)
  (hab:eo a b)
  (hx:∀j,j<kids.length→xs[j*3]?=some (X j).1∧xs[j*3+1]?=some (X j).2.1∧xs[j*3+2]?=some (X j).2.2)
  (hk:∀j t,kids[j]?=some t→fR w (G j) t (X j).1 (X j).2.1 (X j).2.2)
  (hG:∀j q,G j q→F q∧a.ownBlock≠some q∧b.ownBlock≠some q∧c.ownBlock≠some q)
  (JC:∀i j q,i≠j→G i q→¬G j q):fR w F (.mk ks vs kids) a b c
theorem fR.mono {F':Nat→Prop} {c:Value} (h:fR w F t a b c) (hF:∀q,F q→F' q):fR w F' t a b c:=by
 cases h with
 |mk F0 ks vs kids a b c xs G X ha hb hc ba bb fa fb fc hab hx hk hG JC=>exact .mk F' ks vs kids a b c xs G X ha hb hc ba bb (fun g h=>hF g (fa g h)) (fun g h=>hF g (fb g h)) (fun g h=>hF g (fc g h)) hab hx hk (fun j q h=>⟨hF q (hG j q h).1,(hG j q h).2⟩) JC
theorem fR.kept (hg:w.grownBy w' ro) {c:Value} (h:fR w F t a b c):(∀q,F q→ro≠some q)→fR w' F t a b c:=by
 induction h with
 |mk F ks vs kids a b c xs G X ha hb hc ba bb fa fb fc hab hx hk hG JC ih=>
  intro hr;have far:∀(v:Value),(∀g,v.ownBlock=some g→F g)→v.ownBlock=none∨v.ownBlock≠ro:=fun v hv=>by
   cases e:v.ownBlock with
   |none=>exact .inl rfl
   |some g=>exact .inr (fun h=>hr g (hv g e) h.symm)
  exact .mk F ks vs kids a b c xs G X (ha.kept hg (far a fa)) (hb.kept hg (far b fb)) (hc.kept hg (far c fc)) ba bb fa fb fc hab hx (fun j t ht=>ih j t ht (fun q hq=>hr q (hG j q hq).1)) hG JC
theorem kG {n:Nat} {e:TypeId} {xs:List Value} (h:w.ownsRow B e k v n xs) (hF:∀g,v.ownBlock=some g→F g) {p:Option Addr} {m cap:Nat} (hv:v=.slice p m cap) {j:Nat} {u:Value} (hj:xs[j]?=some u):∃g,p=some ⟨g,0,none⟩∧(mask F w).cell? ⟨g,j,none⟩=some u:=by
 subst hv;rcases aJ h with ⟨_,_,h3⟩|⟨g,c,hv⟩
 ·rw[h3] at hj;simp at hj
 ·injection hv with e1 e2 e3
  subst e1;subst e2;subst e3;obtain ⟨h6,h7⟩:=List.getElem?_eq_some_iff.1 hj;have:=bG h _ h6;rw[h7] at this;exact ⟨g,rfl,aq.2 ⟨hF g rfl,this⟩⟩
theorem Dt {l:List Int} (hl:∀x∈l,aQ x) (h:w.ownsRow 0 3 1 v l.length (bw l)) (hF:∀g,v.ownBlock=some g→F g):fA (mask F w) v l:=by
 rcases aJ h with ⟨hv,hn,_⟩|⟨g,cap,hv⟩
 ·exact ⟨none,0,by rw[hv,hn],by omega,by unfold maxLen;omega,fun i x hx=>by rw[List.eq_nil_of_length_eq_zero hn] at hx;simp at hx⟩
 ·have hh:=h
  rw[hv] at hh;obtain ⟨cur,hc,hb,h3,h4,_⟩:=bl hh;refine ⟨_,cap,hv,h3,h4,fun i x hx=>?_⟩;obtain ⟨g2,e,h5⟩:=kG h hF hv (show (bw l)[i]?=some (.int .i64 x) by unfold bw;rw[List.getElem?_map,hx];rfl);exact ⟨hl x (List.mem_of_getElem? hx),g2,0,e,by rw[Nat.zero_add];exact h5⟩
theorem fR.read {c:Value} (h:fR w F t a b c):bn (mask F w) t a b c:=by
 induction h with
 |mk F ks vs kids a b c xs G X ha hb hc ba bb fa fb fc hab hx hk hG JC ih=>
  rw[bA];refine ⟨Dt ba ha fa,Dt bb hb fb,?_⟩;simp only[ag.kids];rcases aJ hc with ⟨hv,hn,_⟩|⟨g,cap,hv⟩
  ·exact ⟨none,0,by rw[hv,hn],by omega,by unfold maxLen;omega,fun j t ht=>by rw[List.eq_nil_of_length_eq_zero hn] at ht;simp at ht⟩
  ·have hh:=hc
   rw[hv] at hh;obtain ⟨cur,hcc,iY,h3,h4,_⟩:=bl hh;refine ⟨_,cap,hv,h3,h4,fun j t ht=>?_⟩;have hj:=(List.getElem?_eq_some_iff.1 ht).1;obtain ⟨x1,x2,x3⟩:=hx j hj;obtain ⟨g1,e1,k1⟩:=kG hc fc hv x1;obtain ⟨g2,e2,k2⟩:=kG hc fc hv x2;obtain ⟨g3,e3,k3⟩:=kG hc fc hv x3;cases e1;cases e2;cases e3;refine ⟨g,0,_,_,_,rfl,by rw[Nat.zero_add];exact k1,by rw[Nat.zero_add];exact k2,by rw[Nat.zero_add];exact k3,?_⟩;exact (ih j t ht).keep (fun a v hv=>by
    have h:=aq.1 hv;exact aq.2 ⟨(hG j _ h.1).1,h.2⟩)
theorem fS {n:Nat} {e:TypeId} {xs:List Value} (h:w.ownsRow B e k v n xs) (hs:∀g,v.ownBlock=some g→g<w.heap.size→w'.heap[g]?=w.heap[g]?):w'.ownsRow B e k v n xs:=by
 refine ⟨h.1,?_⟩;rcases h.2 with hn|⟨g,cap,cur,rfl,hb,Tk,rest⟩
 ·exact .inl hn
 ·refine .inr ⟨g,cap,cur,rfl,hb,?_,rest⟩
  rw[hs g (by simp[Value.ownBlock]) (Array.getElem?_eq_some_iff.1 Tk).1];exact Tk
theorem fR.same {c:Value} (h:fR w F t a b c):(∀q,F q→q<w.heap.size→w'.heap[q]?=w.heap[q]?)→fR w' F t a b c:=by
 induction h with
 |mk F ks vs kids a b c xs G X ha hb hc ba bb fa fb fc hab hx hk hG JC ih=>intro hs;exact .mk F ks vs kids a b c xs G X (fS ha fun g h hl=>hs g (fa g h) hl) (fS hb fun g h hl=>hs g (fb g h) hl) (fS hc fun g h hl=>hs g (fc g h) hl) ba bb fa fb fc hab hx (fun j t ht=>ih j t ht (fun q hq hl=>hs q (hG j q hq).1 hl)) hG JC
theorem fR.vals {vs':List Int} {kids:List ag} {c:Value} (h:fR w F (.mk ks vs kids) a b c) (hb':w'.ownsRow 0 3 1 b vs'.length (bw vs')) (bb':∀x∈vs',aQ x) (hs:∀q,q<w.heap.size→b.ownBlock≠some q→w'.heap[q]?=w.heap[q]?):fR w' F (.mk ks vs' kids) a b c:=by
 cases h with
 |mk F0 ks vs kids a b c xs G X ha hb hc ba bb fa fb fc hab hx hk hG JC=>
  have hcb:eo c b:=cP hc hb (by decide);have far:∀(v:Value),eo v b→∀g,v.ownBlock=some g→b.ownBlock≠some g:=fun v hv g e h=>by
   rcases hv with h1|h1
   ·rw[e] at h1;cases h1
   ·exact h1 (by rw[e,h])
  exact .mk F ks vs' kids a b c xs G X (fS ha fun g h hl=>hs g hl (far a hab g h)) hb' (fS hc fun g h hl=>hs g hl (far c hcb g h)) ba bb' fa fb fc hab hx (fun j t ht=>(hk j t ht).same (fun q hq hl=>hs q hl (hG j q hq).2.2.1)) hG JC
theorem fR.push {K:Nat→Prop} {kids:List ag} {c x y z:Value} (h:fR w F (.mk ks vs kids) a b c) (aas:fR w K t x y z) (hd:∀q,K q→¬F q) (hl:∀q,F q∨K q→q<w.heap.size):∃xs,w.ownsRow 0 73 3 c kids.length xs∧∀(w2:World) (c':Value) (F':Nat→Prop),w.grownBy w2 c.ownBlock→w2.ownsRow 0 73 3 c' (kids.length+1) (xs++[x,y,z])→(c'.ownBlock=c.ownBlock∨∃g,c'.ownBlock=some g∧w.heap.size≤g)→(∀q,F q∨K q→F' q)→(∀g,c'.ownBlock=some g→F' g)→fR w2 F' (.mk ks vs (kids++[t])) a b c':=by
 cases h with
 |mk F0 ks vs kids a b c xs G X ha hb hc ba bb fa fb fc hab hx hk hG JC=>
  refine ⟨xs,hc,fun w2 c' F' hg hc' kL hF' hFc=>?_⟩;have tZ:xs.length=kids.length*3:=hc.1;have hac:eo a c:=cP ha hc (by decide);have Q8:eo b c:=cP hb hc (by decide);have Uc:∀q,F q∨K q→(F q→c.ownBlock≠some q)→c'.ownBlock≠some q:=fun q hq hne e=>by
   rcases kL with h1|⟨g,h1,h2⟩
   ·rw[h1] at e
    rcases hq with hq|hq
    ·exact hne hq e
    ·exact hd q hq (fc q e)
   ·rw[h1] at e;injection e with e
    have:=hl q hq;omega
  refine .mk F' ks vs (kids++[t]) a b c' (xs++[x,y,z]) (fun j q=>if j=kids.length then K q else G j q) (fun j=>if j=kids.length then (x,y,z) else X j) (ha.kept hg hac) (hb.kept hg Q8) (by rw[List.length_append];exact hc') ba bb (fun g h=>hF' g (.inl (fa g h))) (fun g h=>hF' g (.inl (fb g h))) hFc hab (fun j hj=>?_) (fun j s hs=>?_) (fun j q hq=>?_) (fun i j q xz hi hj=>?_)
  ·rw[List.length_append] at hj
   simp only[List.length_cons,List.length_nil] at hj;by_cases e:j=kids.length
   ·subst e
    simp only[if_true];rw[List.getElem?_append_right (by omega),List.getElem?_append_right (by omega),List.getElem?_append_right (by omega),tZ,show kids.length*3-kids.length*3=0 by omega,show kids.length*3+1-kids.length*3=1 by omega,show kids.length*3+2-kids.length*3=2 by omega];exact ⟨rfl,rfl,rfl⟩
   ·simp only[if_neg e]
    rw[List.getElem?_append_left (by omega),List.getElem?_append_left (by omega),List.getElem?_append_left (by omega)];exact hx j (by omega)
  ·by_cases e:j=kids.length
   ·subst e
    rw[List.getElem?_append_right aT,Nat.sub_self] at hs;simp only[List.getElem?_cons_zero,Option.some.injEq] at hs;subst hs;simp only[if_true];exact aas.kept hg (fun q hq e=>hd q hq (fc q e))
   ·have hj:=(List.getElem?_eq_some_iff.1 hs).1
    rw[List.length_append] at hj;simp only[List.length_cons,List.length_nil] at hj;rw[List.getElem?_append_left (by omega)] at hs;simp only[if_neg e];exact (hk j s hs).kept hg (fun q hq=>(hG j q hq).2.2.2)
  ·by_cases e:j=kids.length
   ·rw[if_pos e] at hq
    exact ⟨hF' q (.inr hq),fun h=>hd q hq (fa q h),fun h=>hd q hq (fb q h),Uc q (.inr hq) (fun h=>(hd q hq h).elim)⟩
   ·rw[if_neg e] at hq
    obtain ⟨h1,h2,h3,h4⟩:=hG j q hq;exact ⟨hF' q (.inl h1),h2,h3,Uc q (.inl h1) (fun _=>h4)⟩
  ·by_cases e:i=kids.length
   ·rw[if_pos e] at hi
    rw[if_neg (fun h=>xz (e.trans h.symm))] at hj;exact hd q hi (hG j q hj).1
   ·rw[if_neg e] at hi
    by_cases e':j=kids.length
    ·rw[if_pos e'] at hj
     exact hd q hj (hG i q hi).1
    ·rw[if_neg e'] at hj
     exact JC i j q xz hi hj
theorem fR.leaf (ha:w.ownsRow 0 3 1 a ks.length (bw ks)) (hb:w.ownsRow 0 3 1 b vs.length (bw vs)) (ba:∀x∈ks,aQ x) (bb:∀x∈vs,aQ x) (hab:eo a b) (fa:∀g,a.ownBlock=some g→F g) (fb:∀g,b.ownBlock=some g→F g):fR w F (.mk ks vs []) a b (.slice none 0 0):=
 .mk F ks vs [] a b (.slice none 0 0) [] (fun _ _=>False) (fun _=>(.bool false,.bool false,.bool false)) ha hb (World.ownsRow_nil _ _ _ _) ba bb fa fb (fun g h=>by simp[Value.ownBlock] at h) hab (fun j hj=>by simp at hj) (fun j t ht=>by simp at ht) (fun _ _ h=>h.elim) (fun _ _ _ _ h=>h.elim)
end Go.Proofs.YtbigkioechkngaaGreat
namespace Go.Proofs.YtbigkioechkngaaGreat
open Go.RowKit Go.Shelf
open Tryz
attribute [local go_sem] Oper.semAt_some
def Tn (x:aB×Int):Array Value := #[x.1.agg,.int .i64 x.2]
theorem qY (p:Option Addr) (m c:Nat) (n:Int) (w:World):Calls prog 27 #[.slice p m c,.int .i64 n] w fun e w'=>e=.returned (.func (.func 73) #[] #[.pointer (some ⟨w.heap.size,0,none⟩),.pointer (some ⟨w.heap.size+1,0,none⟩)]) ∧
 w'=(w.alloc (.cells #[.slice p m c] 27)).alloc (.cells #[.int .i64 n] 3):=by
 go_enter func27,ntmps27;go_wp2_with fail;go_ret;exact ⟨rfl,rfl⟩
theorem Li {l:List dx} {k:Nat} {p:ay} (h:(aX l)[k]?=some p):rX p.1=true:=by
 by_cases hm:dP l=true
 ·exact (vM hm p (List.mem_of_getElem? h)).1
 ·unfold aX at h
  rw[if_neg hm] at h;simp at h
theorem Pr {n:Int} (h:rX n=true) (c p s:Int) (k:Bool) (hx:bI n=⟨c,p,s,k⟩) (w:World):Calls prog 75 #[.int .i64 n] w fun e w'=>e=.returned (.tuple #[.agg #[.int .i64 c,.int .i64 p,.int .i64 s,.bool k],.bool true])∧Bw w w':=by have hb:=Ef h;refine (vB n (by omega) (by omega) w).mono ?_;rintro e w' ⟨rfl,hb⟩;refine ⟨?_,hb⟩;unfold JL;rw[if_pos h,h,hx];rfl
theorem tR (k0 B:Nat) (M₀:Nat→Prop) (l:List dx) (n:Int) (vv:Value) (w:World) (hv:eQ w vv l) (ls:bM l) (h1:w.cell? ⟨B,0,none⟩=some vv) (h2:w.cell? ⟨B+1,0,none⟩=some (.int .i64 n)) (hB:M₀ (B+1)) :
 M9 k0 prog 73 #[.pointer (some ⟨B,0,none⟩),.pointer (some ⟨B+1,0,none⟩)] Tn M₀ (bC l n) w:=by
 obtain ⟨L,hL⟩:=aG (aX l);have Jl:=aa (fun k p (h:L[k]?=some p)=>Li (l:=l) (k:=k) (p:=p) (by rw[hL];exact h));unfold bC;rw[hL];intro i J Jx W hW LX hJ2 hY h0;have y1:=ae hW h1;have nW:=aa (ae hW h2);have HCT:=aa (Gw l vv W (hv.keep (af hW)) ls);obtain ⟨pv,nv,cv,rfl⟩:∃p n c,vv=.slice p n c:=by obtain ⟨p,c,e,_⟩:=hv;exact ⟨p,_,c,e⟩
 have H1:=aa LX;have HY:=aa hY;have H0:=aa h0;have yV:=aa hB;have nV:=aa hL;clear hv ls h1 h2 hB hW LX hJ2 hY h0 hL;refine callsIn_of_wp func73 rfl trivial ?_ rfl;simp only[ntmps73,List.size_toArray,List.length_cons,List.length_nil,Nat.reduceAdd,Nat.reduceSub,Array.replicate_succ,Array.replicate_zero,List.push_toArray,List.append_toArray,List.nil_append,List.cons_append];gi_wp2_with fail;refine ⟨trivial,fun h=>(by cases h),?_⟩;refine (callsIn_wide.2 HCT.o).mono ?_;rintro e W2 ⟨v,rfl,QQ,kL,hb⟩;rw[nV.o] at QQ;obtain ⟨p,cap,rfl,afU,ZH,k8⟩:=QQ;have jJ:∀b,M₀ b∨(W.heap.size≤b∧b<W2.heap.size)→M₀ b∨(W.heap.size≤b∧b<W2.heap.size):=fun b h=>h;have HJ:=aa (show J (fun b=>M₀ b∨(W.heap.size≤b∧b<W2.heap.size)) [] W2 from H1.o M₀ _ [] W W2 H0.o (aS hb none) (fun b hb=>hb));have HC:=aa (fun i x (hx:L[i]?=some x)=>show ∃g o,p=some ⟨g,o,none⟩∧(W.heap.size≤g∧g<W2.heap.size)∧W2.cell? ⟨g,o+i*2,none⟩=some (.int .i64 x.1)∧W2.cell? ⟨g,o+i*2+1,none⟩=some (.int .i64 x.2) by
  obtain ⟨g,o,e,c1,c2⟩:=k8 i x hx;subst e;exact ⟨g,o,rfl,⟨kL g rfl,World.block_lt_of_cell? _ _ c1⟩,c1,c2⟩)
 have Yh:=aa (ae hb nW.o);obtain ⟨N,hN⟩:=aG L.length;have ll:=aa hN;rw[hN] at afU ⊢;have hlc:=fG (n:=N) ZH;clear hb y1 hN afU ZH k8 kL jJ;gi_wp2_with fail;gi_loopw [11,5,6,7] (fun i _ _ _ wr=>∃(k:Nat) (pre:List (aB×Int)),k≤N∧i=.int .i64 k∧fE L n=pre++fE (L.drop k) n∧J (fun b=>M₀ b∨(W.heap.size≤b∧b<W2.heap.size)) pre wr∧fp (fun b=>M₀ b∨(W.heap.size≤b∧b<W2.heap.size)) W2 wr) (fun i _ _ _ _=>N-(intOf i).toNat)
 case atStart=>exact ⟨0,[],dO,rfl,rfl,HJ.o,fp.refl _ _⟩
 case round=>
  obtain ⟨k,pre,hk,rfl,heq,hj,tj⟩:=hrel;have Ct:=aa hj;have jZ:=aa tj;have xA:=aa heq;clear hj tj heq;by_cases hlt:k<N
  case neg=>
   obtain rfl:k=N:=by omega
   have HT:=aa (show fE L n=pre by rw[xA.o,O3 (by rw[ll.o];exact aT),List.append_nil]);gi_wp2_with fail;go_end0;exact ⟨⟨_,rfl⟩,Or.inl ⟨_,by have:=Ct.o;rw[HT.o];exact this⟩⟩
  have fN:(k:Int)<(N:Int):=by omega
  obtain ⟨x,hx⟩:=fx (l:=L) (k:=k) (by rw[ll.o];exact hlt);obtain ⟨g,o,rfl,Yt,c0,c1⟩:=HC.o k x hx;have r0:=jZ.o.cell (.inr Yt) c0;have r1:=jZ.o.cell (.inr Yt) c1;have sn:=jZ.o.cell (.inl yV.o) Yh.o;have Ui:=Jl.o k x hx;obtain ⟨ho1,ho2⟩:=Ef Ui;have HX:=aa hx;clear hx c0 c1 Yt;obtain ⟨v,cnt⟩:=x;obtain ⟨⟨xc,xp,xs,xk⟩,hxr⟩:∃y,bI v=y:=⟨_,rfl⟩
  have HOF:=aa (fun W=>Pr Ui xc xp xs xk hxr W);have Qc:=aa hxr;have ak8:=aa Ui;simp only at r0 r1 ho1 ho2;have dF:=aa (show Bw wr (wr.alloc (.cells #[.int .i64 v,.int .i64 cnt] 82)) from ar);have HQ3:=aa (aK.new wr [.int .i64 v,.int .i64 cnt] 82);have q0:=HQ3.o.cell (j:=0) rfl;clear Ui hxr;gi_wp2_with fail;refine ⟨trivial,fun h=>(by cases h),?_⟩;refine (callsIn_wide.2 (HOF.o _)).mono ?_;rintro e w5 ⟨rfl,aR⟩;have bp:=bh dF aR;have cU:=aa (show Bw wr (w5.alloc (.cells #[.int .i64 xc,.int .i64 xp,.int .i64 xs,.bool xk] 50)) from bp.o.alloc bp.o.size _);have q1:=((HQ3.o.below aR).alloc (.cells #[.int .i64 xc,.int .i64 xp,.int .i64 xs,.bool xk] 50)).cell (j:=1) rfl;have sn6:=ae cU.o sn;clear aR q0 r0 r1 sn;by_cases hch:xc=n
  case neg=>
   have hd:(xc==n)=false:=(by simpa using hch);have yE:=aa (show fE L n=pre++fE (L.drop (k+1)) n by rw[xA.o,Tb HX.o (by rw[Qc.o];exact hch)]);clear hch;gi_wp2_with fail
   case h_2=>
    refine ⟨fun f h=>(by cases h),?_⟩;gi_wp2_with fail;go_roundw
    case rel=>exact ⟨k+1,pre,by omega,by go_num,yE.o,H1.o _ _ _ _ _ Ct.o (aS cU.o none) (fun b hb=>.inl hb),jZ.o.trans (fp.grown (aS cU.o none) (fun r e=>by cases e))⟩
    case measure=>simp[intOf];omega
  case pos=>
   subst hch;have hd:(xc==xc)=true:=by simp
   have yE:=aa (show fE L xc=(pre++[(⟨xc,xp,xs,xk⟩,cnt)])++fE (L.drop (k+1)) xc by rw[xA.o,O2 HX.o ak8.o (by rw[Qc.o]),Qc.o,List.append_assoc];rfl);have hj6:J (fun b=>M₀ b∨(W.heap.size≤b∧b<W2.heap.size)) pre (w5.alloc (.cells #[.int .i64 xc,.int .i64 xp,.int .i64 xs,.bool xk] 50)):=H1.o _ _ _ _ _ Ct.o (aS cU.o none) (fun b hb=>.inl hb);have HK6:=aa (jZ.o.trans (fp.grown (aS cU.o none) (fun r e=>by cases e)));obtain ⟨fn,tmps,assign,body,QZ,hR⟩:=HY.o (k0-1) _ _ (⟨xc,xp,xs,xk⟩,cnt) _ hj6 (by rw[yE.o];exact List.prefix_append _ _);simp only[Tn,aB.agg] at QZ;clear hj6;gi_wp2_with fail;refine ⟨fun h=>(by cases h),?_⟩;refine hR.mono ?_;rintro e W4 (⟨rfl,LZ,hk4⟩|⟨rfl,L0⟩)
   ·have Q3:=aa LZ;have Nb:=aa (HK6.o.trans hk4)
    clear LZ hk4 q1 sn6;gi_wp2_with fail;go_roundw
    case rel=>exact ⟨k+1,pre++[(⟨xc,xp,xs,xk⟩,cnt)],by omega,by go_num,yE.o,Q3.o,Nb.o⟩
    case measure=>simp[intOf];omega
   ·have jK:=aa L0
    clear L0 q1 sn6;gi_wp2_with fail;refine bodyPost_ret (results_none rfl _ _ _) rfl ?_;exact ⟨⟨_,rfl⟩,Or.inr ⟨pre++[(⟨xc,xp,xs,xk⟩,cnt)],by rw[yE.o];exact List.prefix_append _ _,jK.o⟩⟩
end Go.Proofs.YtbigkioechkngaaGreat
namespace Go.Proofs.YtbigkioechkngaaGreat
open Go.RowKit Tryz
def aaK (T:List (List aj)):Prop:=∀t∈T,∀u∈t,u.2.2.2=true
theorem DC {n:Nat}:∀(C:List ay) (T T':List (List aj)),fY n T C=some T'→aaK T→aaK T'
 |[],T,T',h,h1=>by simp only[fY,Option.some.injEq] at h;subst h;exact h1
 |p::C,T,T',h,h1=>by
  simp only[fY] at h
  split at h
  ·refine DC C (sG T p) T' h (fun x hx u hu=>?_)
   unfold sG at hx;rcases List.mem_or_eq_of_mem_set hx with hx|rfl
   ·exact h1 x hx u hu
   ·rw[List.mem_append,List.mem_singleton] at hu
    rcases hu with hu|rfl
    ·cases ht:T[fP p]? with
     |none=>rw[ht] at hu;simp at hu
     |some t=>rw[ht] at hu;exact h1 t (List.mem_of_getElem? ht) u hu
    ·rfl
  ·simp at h
theorem I4 {l:List dx} {c:Int} {T:List (List aj)} (h:bX l c=some T):aaK T:=by
 unfold bX at h
 split at h
 ·cases hq:fY c.toNat (List.replicate c.toNat []) (aX l) with
  |none=>rw[hq] at h;cases h
  |some U=>
   rw[hq] at h;simp only at h
   split at h
   ·injection h with h;subst h
    refine DC _ _ _ hq (fun t ht u hu=>?_);rw[List.eq_of_mem_replicate ht] at hu;simp at hu
   ·cases h
 ·cases h
theorem I5:∀ {l m:List aj},sw l m=true↔l.map zW=m.map zW
 |[],[]=>by simp[sw]
 |[],_::_=>by simp[sw]
 |_::_,[]=>by simp[sw]
 |(a,b,c,d)::l,(x,y,z,q)::m=>by unfold sw;rw[Bool.and_eq_true,I5 (l:=l) (m:=m)];unfold tU zW;simp[and_assoc]
theorem WN {m:List aj} (h:∀u∈m,u.2.2.2=true):m.map zW=m:=by
 rw[List.map_congr_left (g:=id)]
 ·simp
 ·rintro ⟨a,b,c,d⟩ hu
  have:=h _ hu;simp only at this;subst this;rfl
theorem PG {t:List aj} (h:dE t=true):(jf t).map zW=aP t:=by
 unfold jf aP;rw[List.filter_congr (q:=fun u=>decide (0<u.2.2.1))];intro u hu;have:=(cj.1 (iw h hu)).2.2.2.2.1;by_cases h0:u.2.2.1=0
 ·simp[h0]
 ·have:0<u.2.2.1:=by omega
  simp[h0,this]
theorem yg {t u:List aj} (h:dE t=true) (hu:∀x∈u,x.2.2.2=true):sw (jf t) u=true↔aP t=u:=by rw[I5,PG h,WN hu]
theorem Bl (p:cm) (v:PV) (w:World) (h:br w p v) (ls:bM p.aw):Calls prog 25 #[eY p v] w fun e w'=>e=.returned (.bool (cG p))∧Bw w w':=by
 obtain ⟨W,hW⟩:=aG (w.alloc (.cells #[v.k,v.c,.int .i64 p.disk.ah,v.p,.bool p.disk.dead,.int .i64 p.met,.int .i64 p.gen,.int .i64 p.aF,v.v,v.t] 30));have HX:=aa (show vX W w.heap.size p v by rw[← hW];exact vX.new w p v _);have HB:=aa (show Bw w W by rw[← hW];exact ar);have HK:=aa (fun V (hb:Bw w V)=>wL p.disk v.k v.c v.p V (h.disk.below hb));have HT:=aa (fun V (hb:Bw w V)=>tO p.tabs v.t V (h.tabs.keep (af hb)));have HQ:=aa (fun V (hb:Bw w V)=>NU p.aw p.tabs.length v.v V (h.aw.keep (af hb)) ls);have HP:=aa h;obtain ⟨pk,ck,ek,_,_⟩:=h.disk.kept.slice;obtain ⟨pc,cc,ec,_,_⟩:=h.disk.cache.slice;obtain ⟨pp,cp,ep,_,_⟩:=h.disk.keep.slice;obtain ⟨pt,ct,et,b1,b2⟩:=jo h.tabs;obtain ⟨pv,cv,ev,_⟩:=h.aw;have oI:=aa (@Ar p);have Es:=aa (@bO p);clear h ls;obtain ⟨⟨kept,cache,ah,keep,dead⟩,met,gen,aF,aw,tabs⟩:=p;obtain ⟨vk,vc,vp,vv,vt⟩:=v;simp only at ek ec ep et ev HX HK HT HQ HP oI Es hW b1;subst ek;subst ec;subst ep;subst et;subst ev;unfold eY at *;unfold vX at HX;unfold ew at HK;simp only at HX HK oI Es hW ⊢;obtain ⟨mk,jJ⟩:∃m,fZ ⟨kept,cache,ah,keep,dead⟩=m:=⟨_,rfl⟩
 rw[jJ] at HK oI Es;obtain ⟨mt,vV⟩:∃m,cI tabs=m:=⟨_,rfl⟩
 rw[vV] at HT oI Es;have Jt:=aa jJ;have Am:=aa vV;obtain ⟨KN,Ue⟩:∃n,kept.length=n:=⟨_,rfl⟩
 obtain ⟨TN,VD⟩:∃n,tabs.length=n:=⟨_,rfl⟩
 have HKN:=aa Ue;have RZ:=aa VD;have Kj:=aa (show (tabs.length:Int)≤9223372036854775807 by unfold maxLen at b2;omega);have HKB:=aa (Jt.o);rw[Ue] at HX oI Es hW HK;rw[VD] at HX oI Es hW HQ HT Kj;obtain ⟨r,hr⟩:=aG (cG ⟨⟨kept,cache,ah,keep,dead⟩,met,gen,aF,aw,tabs⟩);rw[hr] at oI Es;rw[hr,Ue,VD];clear jJ vV Ue VD hr b1 b2;go_enter func25,ntmps25;go_upto_region 1 with fail
 try rw[hW]
 clear hW;obtain ⟨c0,c1,c2,c3,c4,c5,c6,c7,c8,c9⟩:=HX.o;cases mk with
 |false=>have HF:=aa (show r=false from oI (fun h=>by have:=h.1;cases this));go_wp2_with (go_at_call 62;(refine (HK.o _ HB.o).mono ?_);rintro e w5 ⟨rfl,aR⟩;have bp:=bh HB aR;clear aR);go_ret;exact ⟨aN HF.symm,bp⟩
 |true=>
 cases mt with
 |false=>have HF:=aa (show r=false from oI (fun h=>by have:=h.2.1;cases this));go_wp2_with (first|(go_at_call 62;(with_reducible refine (HK.o _ HB.o).mono ?_);rintro e w5 ⟨rfl,aR⟩;have bp:=bh HB aR;have fK:=aa (ae aR c9);clear aR;have k9:=fK.o)|(go_at_call 63;(with_reducible refine (HT.o _ bp.o).mono ?_);rintro e w6 ⟨rfl,cV⟩;have cU:=bh bp cV;clear cV));go_ret;exact ⟨aN HF.symm,cU⟩
 |true=>
 have HPX:=aa (show vX W w.heap.size ⟨⟨kept,cache,ah,keep,dead⟩,met,gen,aF,aw,tabs⟩ ⟨.slice pk KN ck,.slice pc cache.length cc,.slice pp keep.length cp,.slice pv aw.length cv,.slice pt TN ct⟩ from ⟨c0,c1,c2,c3,c4,c5,c6,c7,c8,c9⟩);have agh:=aa (show ∀(i:Nat) t,tabs[i]?=some t→dE t=true from fun i t ht=>by
  have h:=Am.o;unfold cI at h;simp only[Bool.and_eq_true,List.all_eq_true] at h;exact h.1 t (List.mem_of_getElem? ht))
 by_cases hok1:1≤met∧met≤1000
 case neg=>
  have HF:=aa (show r=false from oI (fun h=>hok1 h.2.2.1));have kN:met<1∨(¬met<1∧1000<met):=by omega
  clear hok1;rcases kN with h1|⟨h1,h2⟩
  all_goals
   first|(have d1:decide (met<1)=true:=decide_eq_true h1)|(have d1:decide (met<1)=false:=decide_eq_false h1)
   try first|(have d2:decide (1000<met)=true:=decide_eq_true h2)|(have d2:decide (1000<met)=false:=decide_eq_false h2)
   try clear h1
   try clear h2
   go_wp2_with (first|(go_at_call 62;(with_reducible refine (HK.o _ HB.o).mono ?_);rintro e w5 ⟨rfl,aR⟩;have bp:=bh HB aR;have fK:=aa (HPX.o.below aR);clear aR;have k9:=fK.o.2.2.2.2.2.2.2.2.2;simp only at k9)|(go_at_call 63;(with_reducible refine (HT.o _ bp.o).mono ?_);rintro e w6 ⟨rfl,cV⟩;have cU:=bh bp cV;have kS:=aa (fK.o.below cV);clear cV;obtain ⟨j0,j1,j2,j3,j4,j5,j6,j7,j8,j9⟩:=kS.o;simp only at j5));go_ret;exact ⟨aN HF.symm,cU⟩
 case pos=>
 have alg:=aa hok1;have d1:decide (met<1)=false:=decide_eq_false (by omega);have d2:decide (1000<met)=false:=decide_eq_false (by omega);have UC:1≤met:=hok1.1;have yM:met≤1000:=hok1.2;have Ms:1≤TN∧TN≤1000:=by have h:=Am.o;unfold cI at h;simp only[Bool.and_eq_true,decide_eq_true_eq] at h;rw[RZ.o] at h;exact h.2
 have FH:KN≤5000:=by have h:=((gu _).1 Jt).1.2.1;simp only at h;rw[HKN.o] at h;exact h
 clear hok1;obtain ⟨Ms,R2⟩:=Ms;have e1:wrap64 (2*met)=2*met:=dN (by omega) (by omega);have e2:wrap64 (2+2*met)=2+2*met:=dN (by omega) (by omega);have e3:wrap64 (16*(TN:Int))=16*(TN:Int):=dN (by omega) (by omega);have e4:wrap64 (2+2*met+16*(TN:Int))=2+2*met+16*(TN:Int):=dN (by omega) (by omega);have HE:=aa (And.intro e1 (And.intro e2 (And.intro e3 e4)));clear e1 e2 e3 e4;have hkb:(KN:Int)≤9223372036854775807:=by omega
 have NV:(TN:Int)≤9223372036854775807:=by omega
 have HT1:=aa Ms;have HT2:=aa R2;have rZ:=aa (And.intro UC yM);clear FH Ms R2 UC yM;go_upto_region 3 with (first|(go_at_call 62;(with_reducible refine (HK.o _ HB.o).mono ?_);rintro e w5 ⟨rfl,aR⟩;have bp:=bh HB aR;have fK:=aa (HPX.o.below aR);clear aR;have k9:=fK.o.2.2.2.2.2.2.2.2.2;simp only at k9)|(go_at_call 63;(with_reducible refine (HT.o _ bp.o).mono ?_);rintro e w6 ⟨rfl,cV⟩;have cU:=bh bp cV;have kS:=aa (fK.o.below cV);clear cV;obtain ⟨j0,j1,j2,j3,j4,j5,j6,j7,j8,j9⟩:=kS.o;simp only at j0 j5 j6 j7 j8 j9));clear d1 d2;obtain ⟨e1,e2,e3,e4⟩:=HE.o;by_cases hlen:(KN:Int)=2+2*met+16*TN
 case neg=>
  have HF:=aa (show r=false from oI (fun h=>hlen (by have:=h.2.2.2.2.2.1;exact this)));have dl:((KN:Int) != 2+2*met+16*(TN:Int))=true:=by simpa using hlen
  clear hlen;go_wp2_with fail;go_ret;exact ⟨aN HF.symm,cU⟩
 case pos=>
  have rC:=aa hlen;have dl:((KN:Int) != 2+2*met+16*(TN:Int))=false:=by simpa using hlen
  clear hlen;go_upto_region 5 with fail;clear dl e1 e2 e3 e4;by_cases hok2:(1≤gen∧gen<1099511627776)∧(aF=0∨aF=1)
  case neg=>
   have HF:=aa (show r=false from oI (fun h=>hok2 ⟨h.2.2.2.1,h.2.2.2.2.1⟩));have kN:gen<1∨(¬gen<1∧1099511627776≤gen)∨(¬gen<1∧¬1099511627776≤gen∧aF<0)∨(¬gen<1∧¬1099511627776≤gen∧¬aF<0∧1<aF):=by omega
   clear hok2;rcases kN with h3|⟨h3,h4⟩|⟨h3,h4,h5⟩|⟨h3,h4,h5,h6⟩
   all_goals
    first|(have d3:decide (gen<1)=true:=decide_eq_true h3)|(have d3:decide (gen<1)=false:=decide_eq_false h3)
    try first|(have d4:decide (1099511627776≤gen)=true:=decide_eq_true h4)|(have d4:decide (1099511627776≤gen)=false:=decide_eq_false h4)
    try first|(have d5:decide (aF<0)=true:=decide_eq_true h5)|(have d5:decide (aF<0)=false:=decide_eq_false h5)
    try have d6:decide (1<aF)=true:=decide_eq_true h6
    try clear h3
    try clear h4
    try clear h5
    try clear h6
    go_wp2_with fail;go_ret;exact ⟨aN HF.symm,cU⟩
  case pos=>
  have agi:=aa hok2;have d3:decide (gen<1)=false:=decide_eq_false (by omega);have d4:decide (1099511627776≤gen)=false:=decide_eq_false (by omega);have d5:decide (aF<0)=false:=decide_eq_false (by omega);have d6:decide (1<aF)=false:=decide_eq_false (by omega);clear hok2;go_upto_region 7 with fail;clear d3 d4 d5 d6;have VE:=aa (HQ.o _ cU);obtain ⟨q,hq⟩:=aG (bX aw TN);have Et:=aa hq;clear hq;cases q with
  |none=>have HF:=aa (show r=false from oI (fun h=>by have:=h.2.2.2.2.2.2;rw[Et.o] at this;cases this));go_wp2_with (go_at_call 64;(refine VE.o.mono ?_);rintro e w7 Kk;unfold dg at Kk;rw[Et.o] at Kk;obtain ⟨rfl,dL⟩:=Kk;have fw:=bh cU dL;clear dL);go_ret;exact ⟨aN HF.symm,fw⟩
  |some T=>
   have Aq:=aa (xL Et);have HYX:=aa (show r=true↔tabs.map aP=T from ⟨fun h=>by
    have:=(Es.1 h).2.2.2.2.2.2;rw[Et.o] at this;injection this with this;exact this.symm,fun h=>Es.2 ⟨trivial,trivial,alg,agi.1,agi.2,rC,by rw[Et.o,h]⟩⟩)
   have HOLD:=aa (show ∀(i:Nat) u,T[i]?=some u→∀x∈u,x.2.2.2=true from fun i u hu x hx=>I4 Et u (List.mem_of_getElem? hu) x hx);go_upto_region 10 with (go_at_call 64;(refine VE.o.mono ?_);rintro e w7 Kk;unfold dg at Kk;rw[Et.o] at Kk;obtain ⟨v7,rfl,Mp,dL⟩:=Kk;obtain ⟨p7,c7,rfl,ha1,ha2⟩:=jo Mp;rw[Aq.o];have Eo:=aa Mp;have fw:=bh cU dL;have lj:=aa (kS.o.below dL);clear dL Mp ha1 ha2);clear j0 j5 j6 j7 j8 j9;have k9:=lj.2.2.2.2.2.2.2.2.2;simp only at k9;go_wp2_with fail;clear k9;go_loopw [73,5,6] (fun i _ _ wr=>∃k:Nat,k≤TN∧i=.int .i64 k∧(∀(j:Nat) t u,j<k→tabs[j]?=some t→T[j]?=some u→aP t=u)∧Bw w wr∧Bw w7 wr) (fun i _ _ _=>TN-(intOf i).toNat)
   case atStart=>exact ⟨0,dO,rfl,fun j _ _ hj=>by omega,fw,aH⟩
   case round=>
    obtain ⟨k,hk,rfl,hall,hb,hb'⟩:=hrel;have ed:=aa hall;have gI:=aa hb;have ke:=aa hb';clear hall hb hb';by_cases hlt:k<TN
    case neg=>
     obtain rfl:k=TN:=by omega
     have HF:=aa (show r=true from HYX.2 (by
      apply List.ext_getElem (by rw[List.length_map,RZ.o,Aq.o]);intro j h1 h2;rw[List.getElem_map];rw[List.length_map,RZ.o] at h1;exact ed j _ _ h1 (List.getElem?_eq_getElem (by rw[RZ.o];exact h1)) (List.getElem?_eq_getElem h2)))
     go_wp2_with fail;go_ret;exact ⟨aN HF.symm,gI⟩
    case pos=>
     have fN:(k:Int)<(TN:Int):=(by omega);obtain ⟨t,ht⟩:=fx (l:=tabs) (k:=k) (by rw[RZ.o];exact hlt);obtain ⟨u,hu⟩:=fx (l:=T) (k:=k) (by rw[Aq.o];exact hlt);obtain ⟨g,o,u1,e1,y1,y2⟩:=(mA HP.tabs) k _ ht;obtain ⟨g',o',u2,e2,z1,z2⟩:=(mA Eo) k _ hu;subst e1;subst e2;obtain ⟨s1,rfl⟩:=y2.sl;obtain ⟨s2,rfl⟩:=z2.sl;unfold gY at *;have fJ:=aa gI.drew;have HST:=aa (show wr.drew.cell? ⟨g',o'+k,none⟩=_ from ae ke.drew z1);have q0:=HST.o;have yw:=ae gI y1;have YX:=aa (y2.keep (af fJ));have CT:=aa (z2.keep (af ke.drew));have Ju:=aa (And.intro ht hu);have R3:=aa (show t.length≤1000 by
      have h:=Am.o;unfold cI at h;simp only[Bool.and_eq_true,List.all_eq_true] at h;have:=gP (h.1 t (List.mem_of_getElem? ht));omega)
     clear y1 y2 z1 z2 ht hu;obtain ⟨bq,yA⟩:∃b,sw (jf t) u=b:=⟨_,rfl⟩
     have vF:=aa yA;clear yA;go_upto_region 13 with fail;clear yw;go_region_held3 (fun w'=>w'.cell? ⟨g',o'+k,none⟩=some (.slice s2.1 s2.2.1 s2.2.2))
      (first|exact q0|exact gq.o|exact lZ.o)
      (first|((with_reducible refine (E3 t R3.o _ _ YX.o).mono ?_);rintro e w8 ⟨v8,rfl,ho,hb⟩;have HU8:=aa (fj ho);have YY:=aa (CT.o.keep (af hb));have yq:=bh fJ hb;have YZ:=aa (ak ke.o.drew hb);have gq:=aa (show _ from ae hb q0);clear hb ho)|((with_reducible refine (LD (jf t) u _ _ _ HU8.o YY.o).mono ?_);rintro e wa ⟨rfl,hb⟩;rw[vF.o];have jl:=bh yq hb;have Y0:=bh YZ hb;have lZ:=aa (show _ from ae hb gq.o);clear hb))
     cases bq with
     |true=>
      have yO:=aa (show aP t=u from (yg (agh k t Ju.1) (HOLD k u Ju.2)).1 vF);go_wp2_with fail;go_roundw
      case rel=>
       refine ⟨k+1,by omega,by go_num,fun j t' u' hj ht hu=>?_,jl.o,Y0.o⟩;by_cases e:j=k
       ·subst e;rw[Ju.o.1] at ht;rw[Ju.o.2] at hu;cases ht;cases hu;exact yO.o
       ·exact ed j t' u' (by omega) ht hu
      case measure=>simp[intOf];omega
     |false=>
      have hsm:¬aP t=u:=fun h=>by have h2:=(yg (agh k t Ju.1) (HOLD k u Ju.2)).2 h;rw[vF.o] at h2;cases h2
      have HF:=aa (show r=false by
       rw[← Bool.not_eq_true,HYX.o];intro h;have h1:=congrArg (·[k]?) h;simp only[List.getElem?_map] at h1;rw[Ju.o.1,Ju.o.2] at h1;simp only[Option.map_some,Option.some.injEq] at h1;exact hsm h1)
      clear hsm;go_wp2_with fail;go_ret;exact ⟨aN HF.symm,jl⟩
theorem tV (p:cm) (v:PV) (w:World) (h:br w p v) (ls:bM p.aw):Calls prog 13 #[eY p v] w fun e w'=>e=.returned (.int .i64 (mK p))∧Bw w w':=by
 obtain ⟨pk,nk,ck,pc,nc,cc,pp,np,cp,pv,nv,cv,pt,nt,ct,rfl⟩:=h.sl;have HM:=aa (fun V (hb:Bw w V)=>Bl p _ V (h.keep (af hb)) ls);have HP:=aa h.tabs;obtain ⟨p5,c5,e1,a1,a2,_⟩:=h.tabs;injection e1 with e1 e2 e3;subst e1;subst e2;subst e3;clear h ls;have Am:=aa (fun (hm:cG p=true)=>(bO.1 hm).2.1);have HV:=aa (show mK p=if cG p=true then jY 0 p.tabs (-1) 0 else -1 from rfl);obtain ⟨r,hr⟩:=aG (mK p);rw[hr] at HV ⊢;clear hr;obtain ⟨m,hm⟩:=aG (cG p);rw[hm] at HM Am HV;clear hm;obtain ⟨⟨kept,cache,ah,keep,dead⟩,met,gen,aF,aw,tabs⟩:=p;unfold eY at *;simp only at HM Am HV HP a1 ⊢;obtain ⟨N,hN⟩:=aG tabs.length;have HN:=aa hN;rw[hN] at a1 HM HP ⊢;clear hN;obtain ⟨W1,hW1⟩:=aG (w.alloc (.cells #[.slice pk nk ck,.slice pc nc cc,.int .i64 ah,.slice pp np cp,.bool dead,.int .i64 met,.int .i64 gen,.int .i64 aF,.slice pv nv cv,.slice pt N ct] 30));have aU:=aa (show aK W1 w.heap.size [.slice pk nk ck,.slice pc nc cc,.int .i64 ah,.slice pp np cp,.bool dead,.int .i64 met,.int .i64 gen,.int .i64 aF,.slice pv nv cv,.slice pt N ct] by rw[← hW1];exact aK.new w _ _);have aY:=aa (show Bw w W1 by rw[← hW1];exact ar);have ee:=aa hW1;clear hW1 a2;go_enter func13,ntmps13;go_upto_region 1 with fail;rw[ee.o];clear ee;obtain ⟨c0,c1,c2,c3,c4,c5,c6,c7,c8,c9⟩:=aU.ten;cases m with
 |false=>have HF:=aa (show r = -1 by rw[HV.o];rfl);go_wp2_with (go_at_call 25;(refine (HM.o _ aY.o).mono ?_);rintro e w2 ⟨rfl,hb⟩;have bS:=bh aY hb;clear hb);go_ret;exact ⟨kH HF.symm,bS⟩
 |true=>
 have HR:=aa (show jY 0 tabs (-1) 0=r by rw[HV.o];rfl);have hN1:N≤1000:=by have h:=Am.o rfl;unfold cI at h;simp only[Bool.and_eq_true,decide_eq_true_eq] at h;rw[HN.o] at h;exact h.2.2
 have VS:=aa (show ∀(i:Nat) t,tabs[i]?=some t→dE t=true from fun i t ht=>by
  have h:=Am.o rfl;unfold cI at h;simp only[Bool.and_eq_true,List.all_eq_true] at h;exact h.1 t (List.mem_of_getElem? ht))
 have hlc:(N:Int)≤9223372036854775807:=by omega
 go_upto_region 4 with (go_at_call 25;(refine (HM.o _ aY.o).mono ?_);rintro e w2 ⟨rfl,hb⟩;have bS:=bh aY hb;have dV:=aa (aU.o.below hb);clear hb);clear c0 c1 c2 c3 c4 c5 c6 c7 c8 c9;have c9:=dV.cell (j:=9) rfl;go_wp2_with fail;clear c9;go_loopw [16,3,4] (fun i b f wr=>∃(k:Nat) (bi fi:Int),k≤N∧i=.int .i64 k∧b=.int .i64 bi∧f=.int .i64 fi∧jY k (tabs.drop k) bi fi=r∧Bw w wr) (fun i _ _ _=>N-(intOf i).toNat)
 case atStart=>exact ⟨0,-1,0,dO,rfl,rfl,rfl,by rw[List.drop_zero];exact HR,bS⟩
 case round=>
  obtain ⟨k,bi,fi,hk,rfl,rfl,rfl,Hc,hb⟩:=hrel;have Jw:=aa Hc;have HB:=aa hb;clear Hc hb;by_cases hlt:k<N
  case neg=>
   obtain rfl:k=N:=by omega
   have HF:=aa (show r=bi by rw[← Jw.o,List.drop_of_length_le (by rw[HN.o];exact aT)];rfl);go_wp2_with fail;go_ret;exact ⟨kH HF.symm,HB⟩
  case pos=>
   have fN:(k:Int)<(N:Int):=(by omega);obtain ⟨t,ht⟩:=fx (l:=tabs) (k:=k) (by rw[HN.o];exact hlt);obtain ⟨g,o,u1,rfl,x1,x2⟩:=(mA HP) k _ ht;obtain ⟨s1,rfl⟩:=x2.sl;unfold gY at *;obtain ⟨pu,cu,eu,b1,b2,hu⟩:=x2;injection eu with e1 e2 e3;have HA:=aa hu;have r0:=ae HB x1;have fX:=aa (I2 bi fi ht);have HWY:=aa (fun j=>PA (VS k t ht) j);obtain ⟨M,hM⟩:=aG t.length;have rZ:=aa hM;have hM1:M≤16:=by have:=gP (VS k t ht);omega
   obtain ⟨sp,sn,sc⟩:=s1;simp only at e1 e2 e3 r0;subst e1;subst e3;rw[hM] at e2;subst e2;have Ys:(sn:Int)≤9223372036854775807:=by omega
   clear hu ht x1 b1 b2 hM;obtain ⟨wo,Qo⟩:∃wo,wo=wr:=⟨_,rfl⟩
   rw[← Qo] at HB r0 ⊢;clear Qo;go_upto_region 9 with fail;go_loopw [23,7] (fun i hl wr=>∃(j:Nat),j≤sn∧i=.int .i64 j∧hl=.int .i64 (fo (t.take j))∧Bw w wr) (fun i _ _=>sn-(intOf i).toNat)
   case atStart=>exact ⟨0,dO,rfl,rfl,HB⟩
   case round=>
    obtain ⟨j,hj,rfl,rfl,hb⟩:=hrel;have dF:=aa hb;clear hb;obtain ⟨A,hA⟩:=aG (fo (t.take j));have hAb:0≤A∧A≤128:=by rw[← hA];exact HWY j
    have HAA:=aa hA;rw[hA];clear hA;by_cases iZ:j<sn
    case neg=>
     obtain rfl:j=sn:=by omega
     have HHE:=aa (show fo t=A by
      rw[← HAA.o,List.take_of_length_le (by rw[rZ.o];exact aT)])
     obtain ⟨q1,hq1⟩:∃q,decide (0<A)=q:=⟨_,rfl⟩
     obtain ⟨q2,BC⟩:∃q,decide (bi<0)=q:=⟨_,rfl⟩
     obtain ⟨q3,hq3⟩:∃q,decide (A<fi)=q:=⟨_,rfl⟩
     have Mo:=aa (show (q1&&(q2 || q3))=true→jY (k+1) (tabs.drop (k+1)) k A=r from fun h=>by
      rw[← Jw.o,fX.o,HHE.o,if_pos];subst hq1;subst BC;subst hq3
      simpa using h)
     have oI:=aa (show (q1&&(q2 || q3))=false→jY (k+1) (tabs.drop (k+1)) bi fi=r from fun h=>by
      rw[← Jw.o,fX.o,if_neg];rw[HHE.o];intro h2;subst hq1;subst BC;subst hq3;have h3:(decide (0<A)&&(decide (bi<0) || decide (A<fi)))=true:=by simpa using h2
      rw[h3] at h;cases h)
     cases q1 <;> cases q2 <;> cases q3
     all_goals
      first
      |(have aa0:=aa (Mo.o rfl)
        go_wp2_with fail;go_roundw
        case rel=>exact ⟨k+1,k,A,by omega,by go_num,rfl,rfl,aa0.o,dF.o⟩
        case measure=>simp[intOf];omega)
      |(have aa0:=aa (oI.o rfl)
        go_wp2_with fail;go_roundw
        case rel=>exact ⟨k+1,bi,fi,by omega,by go_num,rfl,rfl,aa0.o,dF.o⟩
        case measure=>simp[intOf];omega)
    case pos=>
     have Gg:(j:Int)<(sn:Int):=(by omega);have Rz:(0:Int)≤(j:Int):=by omega
     obtain ⟨⟨x,y,z,d⟩,hs⟩:∃s,t[j]?=some s:=⟨_,List.getElem?_eq_getElem (by rw[rZ.o];exact iZ)⟩
     obtain ⟨gg,oo,rfl,y2⟩:=HA.o j _ hs;obtain ⟨r0,r1,r2,r3⟩:=y2.keep (af dF);simp only at r0 r1 r2 r3;have HNH:=aa (Lu hs);have Xl:=aa (HWY.o (j+1));clear hs y2;obtain ⟨W3,hW3⟩:=aG (wr.alloc (.cells #[.int .i64 x,.int .i64 y,.int .i64 z,.bool d] 52));have WM:=aa (show aK W3 wr.heap.size [.int .i64 x,.int .i64 y,.int .i64 z,.bool d] by rw[← hW3];exact aK.new wr _ _);have fW:=aa (ak dF (show Bw wr W3 by rw[← hW3];exact ar));have HW3:=aa hW3;clear hW3;go_upto_region 11 with fail;rw[HW3.o];clear r0 r1 r2 r3;obtain ⟨r0,r1,r2,r3⟩:=WM.four;by_cases hz:z=0
     ·subst hz
      have Ea:=aa (show fo (t.take (j+1))=A by rw[HNH.o,if_pos rfl,HAA.o,Int.add_zero]);go_wp2_with fail;go_roundw
      case rel=>exact ⟨j+1,by omega,by go_num,by rw[Ea.o],fW.o⟩
      case measure=>simp[intOf];omega
     ·have hzd:(z != 0)=true:=by simpa using hz
      have Ea:=aa (show fo (t.take (j+1))=A+y by rw[HNH.o,if_neg hz,HAA.o]);have HS:=aa (show wrap64 (A+y)=A+y from dN (by have:=Xl.o;rw[Ea.o] at this;omega) (by have:=Xl.o;rw[Ea.o] at this;omega));clear hz;go_wp2_with fail;go_roundw
      case rel=>exact ⟨j+1,by omega,by go_num,by rw[Ea.o];exact congrArg (Value.int .i64) HS.o,fW.o⟩
      case measure=>simp[intOf];omega
end Go.Proofs.YtbigkioechkngaaGreat
