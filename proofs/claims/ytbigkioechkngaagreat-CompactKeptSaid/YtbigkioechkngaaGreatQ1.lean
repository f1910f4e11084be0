/- The proof, part 2. -/
import Derived.Test.YtbigkioechkngaaGreatQ0
import Derived.Deep.Cut
import Derived.Deep.CutRange
import Derived.Deep.LoopGhost
set_option maxRecDepth 100000
set_option maxHeartbeats 8000000
namespace Go.Proofs.YtbigkioechkngaaGreat
open Go.RowKit
theorem mq (d:dy) (v:Value) (w:World) (hv:vK w v d) (hlen:dN d.map):Calls Tryz.prog 140 #[v] w fun e w'=>e=.returned (.bool (cI d))∧Bw w w':=by
 obtain ⟨a,b,c,rfl,hi,hsz,hn⟩:=hv;have fN:Bw w (w.alloc (.cells #[.int .i64 d.id,.int .i64 d.size,a,b,c] 75)):=aq;have HN:=aa (hn.keep (af fN));have HB:=aa fN;have HLEN:=aa hlen;have Q9:=aa (nZ _ hn);obtain ⟨⟨pa,ca,rfl,_,_,_⟩,⟨pb,cb,rfl,_,_,_⟩,⟨pc,cc,rfl,_,_,_⟩⟩:=bD.1 hn;obtain ⟨KA,hKA⟩:∃K,d.map.keys.length=K:=⟨_,rfl⟩
 obtain ⟨KB,hKB⟩:∃K,d.map.vals.length=K:=⟨_,rfl⟩
 obtain ⟨KC,hKC⟩:∃K,d.map.kids.length=K:=⟨_,rfl⟩
 rw[hKA,hKB,hKC] at HN HB ⊢;clear hn fN hlen hi hsz hKA hKB hKC;obtain ⟨I,hI⟩:=aG d.id;obtain ⟨S,hS⟩:=aG d.size;have xI:=aa (show cI d=(decide (1≤I∧I≤1000∧0≤S∧S≤100000)&&jT d.map&&(aB d.map).all (dH S)) by unfold cI;rw[hI,hS]);have vI:=aa hS;rw[hI,hS] at HN HB ⊢;clear hI hS;by_cases hA:1≤I∧I≤1000∧0≤S∧S≤100000
 case neg=>
  have HF:=aa (show cI d=false by rw[xI.o,decide_eq_false hA];simp);have hc:(decide (I<1)=true)∨(decide (I<1)=false∧decide (1000<I)=true)∨(decide (I<1)=false∧decide (1000<I)=false∧decide (S<0)=true)∨(decide (I<1)=false∧decide (1000<I)=false∧decide (S<0)=false∧decide (100000<S)=true):=by simp only[decide_eq_true_eq,decide_eq_false_iff_not];omega
  clear hA;rcases hc with h1|⟨h1,h2⟩|⟨h1,h2,h3⟩|⟨h1,h2,h3,h4⟩
  all_goals
   go_enter Tryz.func140,Tryz.ntmps140;go_wp2_with fail;go_ret;exact ⟨aO HF.symm,HB⟩
 have Ck:=aa (show cI d=(jT d.map&&(aB d.map).all (dH S)) by rw[xI.o,decide_eq_true hA];simp);have h1:decide (I<1)=false:=by simp only[decide_eq_false_iff_not];omega
 have h2:decide (1000<I)=false:=by simp only[decide_eq_false_iff_not];omega
 have h3:decide (S<0)=false:=by simp only[decide_eq_false_iff_not];omega
 have h4:decide (100000<S)=false:=by simp only[decide_eq_false_iff_not];omega
 have HA:=aa hA;clear hA xI;go_enter Tryz.func140,Tryz.ntmps140;go_wp2_with fail;refine (Ka d.map _ _ _ _ HN (by have:=HLEN.o;unfold dN at this;omega)).mono ?_;rintro e w1 ⟨rfl,hb⟩;have aZ:=aV HB hb;have HN1:=aa (HN.keep (af hb));have aU:=aa (show pU w.heap.size (.int .i64 I) (.int .i64 S) (.slice pa KA ca) (.slice pb KB cb) (.slice pc KC cc) w1 from pU.below ⟨by simp,by simp,by simp,by simp,by simp⟩ hb);clear hb h1 h2 h3 h4;obtain ⟨q0,q1,q2,q3,q4⟩:=aU.o;have hlx:=World.block_lt_of_cell? _ _ q0;cases hm:jT d.map with
 |false=>have HF:=aa (show cI d=false by rw[Ck.o,hm];simp);clear hm;go_wp2_with fail;go_ret;exact ⟨aO HF.symm,aZ⟩
 |true=>
  have js:=aa (show cI d=(aB d.map).all (dH S) by rw[Ck.o,hm];simp);clear hm;go_wp2_with fail;refine (ku d.map _ _ _ _ HN1 (by have:=HLEN.o;unfold dN at this;omega)).mono ?_;rintro e w2 ⟨v2,rfl,hrow,hb⟩;obtain ⟨p,cp,rfl,_,hcm,hcs⟩:=eH hrow;have bU:=aV aZ hb;have dY:=aa (aU.below hb);have Q5:=aa hcs;have pL:=HLEN.o;unfold dN at pL;obtain ⟨l,hl⟩:=aG (aB d.map);have HPE:=aa hl;rw[hl] at Q5 js Q9 pL ⊢;obtain ⟨N,hN⟩:=aG l.length;rw[hN] at pL ⊢;have lz:=aa hN;clear hb hrow hcs hl hN q0 q1 q2 q3 q4 hlx hcm;go_wp2_with fail;go_loopw [4] (fun i wr=>∃k:Nat,k≤N∧i=.int .i64 k∧(∀(j:Nat) x,j<k→l[j]?=some x→dH S x=true)∧Bw w2 wr) (fun i _=>N-(intOf i).toNat)
  case atStart=>exact ⟨0,dQ,rfl,fun j x hj=>by omega,aH⟩
  case round=>
   obtain ⟨k,hk,rfl,hall,hb⟩:=hrel;have ez:=aa hall;have zL:=aa hb;clear hall hb;by_cases hlt:k<N
   case neg=>
    obtain rfl:k=N:=by omega
    have HF:=aa (show cI d=true by
     rw[js.o,List.all_eq_true];intro x hx;obtain ⟨j,hj⟩:=List.mem_iff_getElem?.1 hx;exact ez j x (by have:=(List.getElem?_eq_some_iff.1 hj).1;have:=lz.o;omega) hj)
    go_wp2_with fail;go_ret;exact ⟨aO HF.symm,ak bU zL⟩
   have fO:(k:Int)<(N:Int):=(by omega);obtain ⟨x,hx⟩:=fy (l:=l) (k:=k) (by rw[lz.o];omega);obtain ⟨g,o,rfl,x1,x2⟩:=Q5.o k x hx;have r1:=ae zL x1;have r2:=ae zL x2;have Q4:=(Q9.o x (List.mem_of_getElem? hx)).2;have HX:=aa hx;have Kc:=aa r1;have XQ:=aa Q4;have QF:=aa (dY.below zL);clear hx x1 x2 r1 Q4;obtain ⟨y1,y2⟩:=x;simp only at r2;go_wp2_with fail;refine (zK y2 XQ.1 XQ.2 _).mono ?_;rintro e w3 ⟨rfl,hb⟩;have dG:=aV zL hb;have B5:w2.heap.size≤w3.heap.size:=dG.size;have r1:=ae hb Kc.o;have r2:=(dY.below dG).2.1;have hg1:=World.block_lt_of_cell? _ _ r1;have hg2:=World.block_lt_of_cell? _ _ r2;obtain ⟨⟨rc,rp,rs,rb⟩,Gp⟩:∃r,Kb y2=r:=⟨_,rfl⟩
   rw[Gp];simp only[aA.agg];obtain ⟨B2,Ut⟩:∃b,sD y2=b:=⟨_,rfl⟩
   rw[Ut];have JN:=aa Ut;clear hb Gp Ut;have r3:(w3.alloc (.cells #[.int .i64 rc,.int .i64 rp,.int .i64 rs,.bool rb] 50)).cell? ⟨g,o+k*2,none⟩=some (.int .i64 y1):=by rw[World.cell?_alloc_past _ _ _ hg1];exact r1
   have r4:(w3.alloc (.cells #[.int .i64 rc,.int .i64 rp,.int .i64 rs,.bool rb] 50)).cell? ⟨w.heap.size,1,none⟩=some (.int .i64 S):=by rw[World.cell?_alloc_past _ _ _ hg2];exact r2
   have gz:=aa (dG.alloc B5 (.cells #[.int .i64 rc,.int .i64 rp,.int .i64 rs,.bool rb] 50));cases B2 with
   |false=>have HF:=aa (show cI d=false from vU (x:=(y1,y2)) (i:=k) (by rw[HPE.o];exact HX) (by unfold dH;simp only;rw[JN.o,Bool.false_and]));go_wp2_with fail;go_quiet (fail);go_wp2_with fail;go_ret;exact ⟨aO HF.symm,ay (ak bU gz) _⟩
   |true=>
    by_cases zM:y1<0
    ·have HF:=aa (show cI d=false from vU (x:=(y1,y2)) (i:=k) (by rw[HPE.o];exact HX) (by unfold dH;simp only;rw[decide_eq_false (by omega),Bool.and_false]))
     have QE:decide (y1<0)=true:=decide_eq_true zM;go_wp2_with fail;go_quiet (fail);go_wp2_with fail;go_ret;exact ⟨aO HF.symm,ay (ak bU gz) _⟩
    ·have QE:decide (y1<0)=false:=decide_eq_false zM
     by_cases Gq:S≤y1
     ·have HF:=aa (show cI d=false from vU (x:=(y1,y2)) (i:=k) (by rw[HPE.o];exact HX) (by unfold dH;simp only;rw[vI.o,decide_eq_false (by omega),Bool.and_false]))
      have hdc:decide (S≤y1)=true:=decide_eq_true Gq;go_wp2_with fail;go_quiet (fail);go_wp2_with fail;go_ret;exact ⟨aO HF.symm,ay (ak bU gz) _⟩
     ·have hdc:decide (S≤y1)=false:=decide_eq_false Gq
      have HG:=aa (show dH S (y1,y2)=true by unfold dH;simp only;rw[JN.o,Bool.true_and,decide_eq_true_eq];omega);clear zM Gq;go_wp2_with fail;go_quiet (fail);go_wp2_with fail;go_roundw
      case rel=>
       refine ⟨k+1,by omega,by go_num,fun j x' hj jg=>?_,ay gz.o _⟩;by_cases e:j=k
       ·subst e;rw[HX.o] at jg;cases jg;exact HG.o
       ·exact ez j x' (by omega) jg
      case measure=>simp[intOf];omega
def kZ (a b:dy):Bool:=(a.id==b.id&&a.size==b.size)&&mh (aB a.map) (aB b.map)
theorem Kd (d1 d2:dy) (v1 v2:Value) (w:World) (h1:vK w v1 d1) (h2:vK w v2 d2) (l1:dN d1.map) (l2:dN d2.map):Calls Tryz.prog 101 #[v1,v2] w fun e w'=>e=.returned (.bool (kZ d1 d2))∧Bw w w':=by
 obtain ⟨a,b,c,rfl,_,_,hn⟩:=h1;obtain ⟨a',b',c',rfl,_,_,XR⟩:=h2;have hb1:Bw w (w.alloc (.cells #[.int .i64 d1.id,.int .i64 d1.size,a,b,c] 75)):=aq;have hb2:Bw w ((w.alloc (.cells #[.int .i64 d1.id,.int .i64 d1.size,a,b,c] 75)).alloc (.cells #[.int .i64 d2.id,.int .i64 d2.size,a',b',c'] 75)):=hb1.alloc (by simp) _;obtain ⟨⟨pa,ca,rfl,_,_,_⟩,⟨pb,cb,rfl,_,_,_⟩,⟨pc,cc,rfl,_,_,_⟩⟩:=bD.1 hn;obtain ⟨⟨pa',ca',rfl,_,_,_⟩,⟨pb',cb',rfl,_,_,_⟩,⟨Uu,Uv,rfl,_,_,_⟩⟩:=bD.1 XR;obtain ⟨KA,hKA⟩:∃K,d1.map.keys.length=K:=⟨_,rfl⟩
 obtain ⟨KB,hKB⟩:∃K,d1.map.vals.length=K:=⟨_,rfl⟩
 obtain ⟨KC,hKC⟩:∃K,d1.map.kids.length=K:=⟨_,rfl⟩
 obtain ⟨KA',ac7⟩:∃K,d2.map.keys.length=K:=⟨_,rfl⟩
 obtain ⟨KB',ac8⟩:∃K,d2.map.vals.length=K:=⟨_,rfl⟩
 obtain ⟨KC',ac9⟩:∃K,d2.map.kids.length=K:=⟨_,rfl⟩
 rw[hKA,hKB,hKC] at hn hb1 hb2 ⊢;rw[ac7,ac8,ac9] at XR hb2 ⊢;have HNA:=aa (hn.keep (af hb2));have sF:=aa (XR.keep (af hb2));have HB:=aa hb2;have xJ:=aa l1;have nW:=aa l2;clear hn XR hb1 hb2 l1 l2 hKA hKB hKC ac7 ac8 ac9;by_cases hid:d1.id=d2.id
 case neg=>
  have he:(d1.id==d2.id)=false:=by simpa using hid
  have HF:=aa (show kZ d1 d2=false by unfold kZ;rw[he];simp);clear hid;go_enter Tryz.func101,Tryz.ntmps101;go_wp2_with fail;go_quiet (fail);go_wp2_with fail;go_ret;exact ⟨aO HF.symm,ay HB _⟩
 have he:(d1.id==d2.id)=true:=by simpa using hid
 clear hid;by_cases hsz:d1.size=d2.size
 case neg=>
  have he2:(d1.size==d2.size)=false:=by simpa using hsz
  have HF:=aa (show kZ d1 d2=false by unfold kZ;rw[he2];simp);clear hsz;go_enter Tryz.func101,Tryz.ntmps101;go_wp2_with fail;go_quiet (fail);go_wp2_with fail;go_ret;exact ⟨aO HF.symm,ay HB _⟩
 have he2:(d1.size==d2.size)=true:=by simpa using hsz
 have HF:=aa (show kZ d1 d2=mh (aB d1.map) (aB d2.map) by unfold kZ;rw[he,he2];simp);clear hsz;obtain ⟨I,hI⟩:=aG d1.id;obtain ⟨S,hS⟩:∃I,d1.size=I:=⟨_,rfl⟩
 obtain ⟨I',hI'⟩:∃I,d2.id=I:=⟨_,rfl⟩
 obtain ⟨S',hS'⟩:∃I,d2.size=I:=⟨_,rfl⟩
 rw[hI,hS,hI',hS'] at HB HNA sF ⊢;rw[hI,hI'] at he;rw[hS,hS'] at he2;clear hI hS hI' hS';obtain ⟨W,hW⟩:=aG ((w.alloc (.cells #[.int .i64 I,.int .i64 S,.slice pa KA ca,.slice pb KB cb,.slice pc KC cc] 75)).alloc (.cells #[.int .i64 I',.int .i64 S',.slice pa' KA' ca',.slice pb' KB' cb',.slice Uu KC' Uv] 75));have aU:=aa (show pU w.heap.size (.int .i64 I) (.int .i64 S) (.slice pa KA ca) (.slice pb KB cb) (.slice pc KC cc) W by rw[← hW];exact ⟨by simp,by simp,by simp,by simp,by simp⟩);have dY:=aa (show pU (w.heap.size+1) (.int .i64 I') (.int .i64 S') (.slice pa' KA' ca') (.slice pb' KB' cb') (.slice Uu KC' Uv) W by rw[← hW];exact ⟨by simp,by simp,by simp,by simp,by simp⟩);go_enter Tryz.func101,Tryz.ntmps101;go_upto_region 1 with fail;rw[hW] at HB HNA sF;clear hW;have ajw:=aa (show bw W.drew d1.map _ _ _ from HNA.keep (af aH.drew));have ajx:=aa (show bw W.drew d2.map _ _ _ from sF.keep (af aH.drew));have kR:=aa (show pU w.heap.size (.int .i64 I) (.int .i64 S) (.slice pa KA ca) (.slice pb KB cb) (.slice pc KC cc) W.drew∧pU (w.heap.size+1) (.int .i64 I') (.int .i64 S') (.slice pa' KA' ca') (.slice pb' KB' cb') (.slice Uu KC' Uv) W.drew from ⟨aU.below aH.drew,dY.below aH.drew⟩);have fL:=aa (show Bw w W.drew from HB.drew);obtain ⟨⟨u0,u1,u2,u3,u4⟩,t0,t1,t2,t3,t4⟩:=kR.o;go_region_held3 (fun w'=>w'.cell? ⟨w.heap.size,0,none⟩=some (.int .i64 I)∧w'.cell? ⟨w.heap.size,1,none⟩=some (.int .i64 S)∧w'.cell? ⟨w.heap.size,2,none⟩=some (.slice pa KA ca)∧w'.cell? ⟨w.heap.size,3,none⟩=some (.slice pb KB cb)∧w'.cell? ⟨w.heap.size,4,none⟩=some (.slice pc KC cc)∧w'.cell? ⟨w.heap.size+1,0,none⟩=some (.int .i64 I')∧w'.cell? ⟨w.heap.size+1,1,none⟩=some (.int .i64 S')∧w'.cell? ⟨w.heap.size+1,2,none⟩=some (.slice pa' KA' ca')∧w'.cell? ⟨w.heap.size+1,3,none⟩=some (.slice pb' KB' cb')∧w'.cell? ⟨w.heap.size+1,4,none⟩=some (.slice Uu KC' Uv))
  (first|exact ⟨u0,u1,u2,u3,u4,t0,t1,t2,t3,t4⟩|exact ⟨zN.o.1.1,zN.o.1.2.1,zN.o.1.2.2.1,zN.o.1.2.2.2.1,zN.o.1.2.2.2.2,zN.o.2.1,zN.o.2.2.1,zN.o.2.2.2.1,zN.o.2.2.2.2.1,zN.o.2.2.2.2.2⟩|exact ⟨mA.o.1.1,mA.o.1.2.1,mA.o.1.2.2.1,mA.o.1.2.2.2.1,mA.o.1.2.2.2.2,mA.o.2.1,mA.o.2.2.1,mA.o.2.2.2.1,mA.o.2.2.2.2.1,mA.o.2.2.2.2.2⟩|exact ⟨gG.o.1.1,gG.o.1.2.1,gG.o.1.2.2.1,gG.o.1.2.2.2.1,gG.o.1.2.2.2.2,gG.o.2.1,gG.o.2.2.1,gG.o.2.2.2.1,gG.o.2.2.2.2.1,gG.o.2.2.2.2.2⟩)
  (first|((with_reducible refine (ku d1.map _ _ _ _ ajw.o (by have:=xJ.o;unfold dN at this;omega)).mono ?_);rintro e w1 ⟨v1,rfl,hrow,hb⟩;have HP1:=aa (eH hrow);have ajy:=aa (ajx.o.keep (af hb));have yP:=aV fL hb;have gG:=aa (And.intro (kR.o.1.below hb) (kR.o.2.below hb));clear hrow hb)|((with_reducible refine (ku d2.map _ _ _ _ ajy.o (by have:=nW.o;unfold dN at this;omega)).mono ?_);rintro e w2 ⟨v2,rfl,hrow,hb⟩;have pT:=aa (eH hrow);have ajz:=aa (HP1.o.keep (af hb));have jr:=aV yP hb;have mA:=aa (And.intro (gG.o.1.below hb) (gG.o.2.below hb));clear hrow hb)|((with_reducible refine (Gl _ _ _ _ _ ajz.o pT.o).mono ?_);rintro e w3 ⟨rfl,hb⟩;have HBC:=aV jr hb;have zN:=aa (And.intro (mA.o.1.below hb) (mA.o.2.below hb));clear hb))
 go_wp2_with fail;go_ret;exact ⟨aO HF.symm,HBC⟩
def bO (l:List dy):Prop:=∀d∈l,dN d.map
def jU:List dy→List dy→Bool
 |[],[]=>true
 |a::l,b::m=>kZ a b&&jU l m
 |_,_=>false
theorem mB:∀(l m:List dy),jU l m=true↔l.length=m.length∧∀(j:Nat) a b,l[j]?=some a→m[j]?=some b→kZ a b=true
 |[],[]=>by simp[jU]
 |[],b::m=>by simp[jU]
 |a::l,[]=>by simp[jU]
 |a::l,b::m=>by
  simp only[jU,Bool.and_eq_true,mB l m,List.length_cons];constructor
  ·rintro ⟨h1,h2,h3⟩
   refine ⟨by omega,fun j x y hx hy=>?_⟩;cases j with
   |zero=>simp only[List.getElem?_cons_zero,Option.some.injEq] at hx hy;subst hx hy;exact h1
   |succ j=>rw[List.getElem?_cons_succ] at hx hy;exact h3 j x y hx hy
  ·rintro ⟨h1,h2⟩
   exact ⟨h2 0 a b rfl rfl,by omega,fun j x y hx hy=>h2 (j+1) x y (by rw[List.getElem?_cons_succ];exact hx) (by rw[List.getElem?_cons_succ];exact hy)⟩
def V5 (g o:Nat) (i s:Int) (a b c:Value) (w:World):Prop:=w.cell? ⟨g,o,none⟩=some (.int .i64 i)∧w.cell? ⟨g,o+1,none⟩=some (.int .i64 s)∧w.cell? ⟨g,o+2,none⟩=some a∧w.cell? ⟨g,o+3,none⟩=some b∧w.cell? ⟨g,o+4,none⟩=some c
theorem V5.below {g o:Nat} {i s:Int} {a b c:Value} {w w':World} (h:V5 g o i s a b c w) (hb:Bw w w'):V5 g o i s a b c w':=
 ⟨ae hb h.1,ae hb h.2.1,ae hb h.2.2.1,ae hb h.2.2.2.1,ae hb h.2.2.2.2⟩
theorem Gr (x y:List dy) (v1 v2:Value) (w:World) (h1:eU w v1 x) (h2:eU w v2 y) (l1:bO x) (l2:bO y):Calls Tryz.prog 47 #[v1,v2] w fun e w'=>e=.returned (.bool (jU x y))∧Bw w w':=by
 obtain ⟨p,cp,rfl,a1,a2,ha⟩:=h1;obtain ⟨q,cq,rfl,b1,b2,hb⟩:=h2;have HA:=aa ha;have jr:=aa hb;obtain ⟨N,hN⟩:=aG x.length;obtain ⟨M,hM⟩:=aG y.length;rw[hN] at a1;rw[hM] at b1;rw[hN,hM];have hlc:=fK (n:=N) a2;have hld:=fK (n:=M) b2;have HN:=aa hN;have HM:=aa hM;have xJ:=aa l1;have nW:=aa l2;clear ha hb hN hM a1 a2 b1 b2 l1 l2;by_cases hNM:N=M
 case neg=>
  have hne:((N:Int) != (M:Int))=true:=by rw[bne_iff_ne];omega
  have HF:=aa (show jU x y=false by
   rw[← Bool.not_eq_true,mB];rintro ⟨h,_⟩;exact hNM (by rw[← HN.o,← HM.o,h]))
  clear hNM;go_enter Tryz.func47,Tryz.ntmps47;go_wp2_with fail;go_ret;exact ⟨aO HF.symm,aH⟩
 subst hNM;have hne:((N:Int) != (N:Int))=false:=by simp
 go_enter Tryz.func47,Tryz.ntmps47;go_wp2_with fail;go_loopw [5] (fun i wr=>∃k:Nat,k≤N∧i=.int .i64 k∧(∀(j:Nat) a b,j<k→x[j]?=some a→y[j]?=some b→kZ a b=true)∧Bw w wr) (fun i _=>N-(intOf i).toNat)
 case atStart=>exact ⟨0,dQ,rfl,fun j a b hj=>by omega,aH⟩
 case round=>
  obtain ⟨k,hk,rfl,hall,hb⟩:=hrel;have ez:=aa hall;have HB:=aa hb;clear hall hb;by_cases hlt:k<N
  case neg=>
   obtain rfl:k=N:=by omega
   have HF:=aa (show jU x y=true by
    rw[mB];exact ⟨by rw[HN.o,HM.o],fun j a b ha hb=>ez j a b (by have:=(List.getElem?_eq_some_iff.1 ha).1;have:=HN.o;omega) ha hb⟩)
   go_wp2_with fail;go_ret;exact ⟨aO HF.symm,HB⟩
  have fO:(k:Int)<(N:Int):=by omega
  obtain ⟨s,hs⟩:=fy (l:=x) (k:=k) (by rw[HN.o];omega);obtain ⟨t,ht⟩:=fy (l:=y) (k:=k) (by rw[HM.o];omega);obtain ⟨i1,i2,g,o,a,b,c,rfl,e0,e1,e2,e3,e4,e5⟩:=HA.o k s hs;obtain ⟨j1,j2,g',o',a',b',c',rfl,f0,f1,f2,f3,f4,f5⟩:=jr.o k t ht;have QG:=aa (show V5 g (o+k*5) s.id s.size a b c wr.drew from V5.below (V5.below ⟨e0,e1,e2,e3,e4⟩ HB) aH.drew);have YZ:=aa (show V5 g' (o'+k*5) t.id t.size a' b' c' wr.drew from V5.below (V5.below ⟨f0,f1,f2,f3,f4⟩ HB) aH.drew);have aU:=aa (show vK wr.drew (.agg #[.int .i64 s.id,.int .i64 s.size,a,b,c]) s from ⟨a,b,c,rfl,i1,i2,(e5.keep (af HB)).keep (af aH.drew)⟩);have dY:=aa (show vK wr.drew (.agg #[.int .i64 t.id,.int .i64 t.size,a',b',c']) t from ⟨a',b',c',rfl,j1,j2,(f5.keep (af HB)).keep (af aH.drew)⟩);have HS:=aa hs;have HT:=aa ht;have JO:=aa (xJ.o s (List.mem_of_getElem? hs));have CO:=aa (nW.o t (List.mem_of_getElem? ht));clear hs ht e0 e1 e2 e3 e4 e5 f0 f1 f2 f3 f4 f5 i1 i2 j1 j2;obtain ⟨u0,u1,u2,u3,u4⟩:=QG.o;obtain ⟨t0,t1,t2,t3,t4⟩:=YZ.o;obtain ⟨bb,jf⟩:=aG (kZ s t);have uI:=aa jf;clear jf;go_wp2_with fail;go_region_held3 (fun w'=>w'.cell? ⟨g,o+k*5,none⟩=some (.int .i64 s.id)∧w'.cell? ⟨g,o+k*5+1,none⟩=some (.int .i64 s.size)∧w'.cell? ⟨g,o+k*5+2,none⟩=some a∧w'.cell? ⟨g,o+k*5+3,none⟩=some b∧w'.cell? ⟨g,o+k*5+4,none⟩=some c∧w'.cell? ⟨g',o'+k*5,none⟩=some (.int .i64 t.id)∧w'.cell? ⟨g',o'+k*5+1,none⟩=some (.int .i64 t.size)∧w'.cell? ⟨g',o'+k*5+2,none⟩=some a'∧w'.cell? ⟨g',o'+k*5+3,none⟩=some b'∧w'.cell? ⟨g',o'+k*5+4,none⟩=some c')
   (first|exact ⟨u0,u1,u2,u3,u4,t0,t1,t2,t3,t4⟩|exact gG.o)
   (((with_reducible refine (Kd s t _ _ _ aU.o dY.o JO.o CO.o).mono ?_);rintro e w1 ⟨rfl,hb⟩;rw[uI.o];have aZ:=aa (ak HB.o.drew hb);have gG:=aa (show _∧_∧_∧_∧_∧_∧_∧_∧_∧_ from ⟨ae hb u0,ae hb u1,ae hb u2,ae hb u3,ae hb u4,ae hb t0,ae hb t1,ae hb t2,ae hb t3,ae hb t4⟩);clear hb))
  clear u0 u1 u2 u3 u4 t0 t1 t2 t3 t4;cases bb with
  |true=>
   go_wp2_with fail;go_roundw
   case rel=>
    refine ⟨k+1,by omega,by go_num,fun j a b hj jg B1=>?_,aZ.o⟩;by_cases e:j=k
    ·subst e;rw[HS.o] at jg;rw[HT.o] at B1;cases jg;cases B1;exact uI.o
    ·exact ez j a b (by omega) jg B1
   case measure=>simp[intOf];omega
  |false=>
   have HF:=aa (show jU x y=false by
    rw[← Bool.not_eq_true,mB];rintro ⟨_,h⟩;have:=h k s t HS HT.o;rw[uI.o] at this;exact absurd this (by simp))
   go_wp2_with fail;go_ret;exact ⟨aO HF.symm,aZ⟩
def Ra:ag:=.mk [] [] []
def zeroV:dy:=⟨0,0,Ra⟩
def findD (l:List dy) (id:Int):dy×Bool:=match l.find? (fun d=>d.id==id) with
 |some d=>(d,true)
 |none=>(zeroV,false)
theorem Nv (w:World):bw w Ra (.slice none 0 0) (.slice none 0 0) (.slice none 0 0):=by unfold Ra;rw[bD];exact ⟨⟨none,0,rfl,aT,by unfold maxLen;omega,fun i x h=>by simp[ag.keys] at h⟩,⟨none,0,rfl,aT,by unfold maxLen;omega,fun i x h=>by simp[ag.vals] at h⟩,none,0,rfl,aT,by unfold maxLen;omega,fun j t h=>by simp[ag.kids] at h⟩
theorem Gs (w:World):vK w (.agg #[.int .i64 0,.int .i64 0,.slice none 0 0,.slice none 0 0,.slice none 0 0]) zeroV:=
 ⟨_,_,_,rfl,by unfold zeroV aP;simp,by unfold zeroV aP;simp,Nv w⟩
theorem bc {w:World} {t:ag} {a b c:Value} (h:bw w t a b c):∃pa na ca pb nb cb pc nc cc,a=.slice pa na ca∧b=.slice pb nb cb∧c=.slice pc nc cc:=by obtain ⟨⟨pa,ca,h1,_⟩,⟨pb,cb,h2,_⟩,⟨pc,cc,h3,_⟩⟩:=bD.1 h;exact ⟨pa,_,ca,pb,_,cb,pc,_,cc,h1,h2,h3⟩
theorem ab2 (x:List dy) (q:Int) (v1:Value) (w:World) (h1:eU w v1 x):Calls Tryz.prog 108 #[v1,.int .i64 q] w fun e w'=>∃v,e=.returned (.tuple #[v,.bool (findD x q).2])∧vK w' v (findD x q).1∧Bw w w':=by
 obtain ⟨p,cp,rfl,a1,a2,ha⟩:=h1;have HA:=aa ha;obtain ⟨N,hN⟩:=aG x.length;rw[hN] at a1;rw[hN];have hlc:=fK (n:=N) a2;have HN:=aa hN;clear ha hN a1 a2;go_enter Tryz.func108,Tryz.ntmps108;go_wp2_with fail;have kI:=aa (show Bw w (w.alloc (.cells #[.int .i64 0,.int .i64 0,.slice none 0 0,.slice none 0 0,.slice none 0 0] 75)) from aq);go_loop [6] (fun i=>∃k:Nat,k≤N∧i=.int .i64 k∧findD x q=findD (x.drop k) q) (fun i=>N-(intOf i).toNat)
 case atStart=>exact ⟨0,dQ,rfl,by rw[List.drop_zero]⟩
 case round=>
  obtain ⟨k,hk,rfl,hall⟩:=hrel;have ez:=aa hall;clear hall;by_cases hlt:k<N
  case neg=>
   obtain rfl:k=N:=by omega
   have HF:=aa (show findD x q=(zeroV,false) by rw[ez.o,List.drop_of_length_le (by rw[HN.o];omega)];rfl);go_wp2_with fail;refine bodyPost_ret (v:=.tuple #[.agg #[.int .i64 0,.int .i64 0,.slice none 0 0,.slice none 0 0,.slice none 0 0],.bool false]) (by simp[results,Tryz.results108,go_sem]) rfl ?_;refine ⟨_,by rw[HF.o],by rw[HF.o];exact Gs _,kI⟩
  have fO:(k:Int)<(N:Int):=by omega
  obtain ⟨s,hs⟩:=fy (l:=x) (k:=k) (by rw[HN.o];omega);obtain ⟨i1,i2,g,o,a,b,c,rfl,e0,e1,e2,e3,e4,e5⟩:=HA.o k s hs;obtain ⟨pa,na,ca,pb,nb,cb,pc,nc,cc,rfl,rfl,rfl⟩:=bc e5;have r0:=ae kI e0;have r1:=ae kI e1;have r2:=ae kI e2;have r3:=ae kI e3;have r4:=ae kI e4;have hg:=World.block_lt_of_cell? _ _ e0;have hd:x.drop k=s::x.drop (k+1):=by obtain ⟨hk2,hx⟩:=List.getElem?_eq_some_iff.1 hs;rw[List.drop_eq_getElem_cons hk2,hx]
  have HD:=aa hd;have HE:=aa (And.intro i1 (And.intro i2 e5));clear hs hd e5 i1 i2;by_cases Ex:s.id=q
  ·have hb:(s.id==q)=true:=by simpa using Ex
   have HF:=aa (show findD x q=(s,true) by rw[ez.o,HD.o];unfold findD;rw[List.find?_cons_of_pos (p:=fun d:dy=>d.id==q) hb]);clear Ex;go_wp2_with fail;have XS:=(Below.refl w.heap.size w).alloc aT (.cells #[.int .i64 s.id,.int .i64 s.size,.slice pa na ca,.slice pb nb cb,.slice pc nc cc] 75);refine bodyPost_ret (v:=.tuple #[.agg #[.int .i64 s.id,.int .i64 s.size,.slice pa na ca,.slice pb nb cb,.slice pc nc cc],.bool true]) (by simp[results,Tryz.results108,go_sem]) rfl ?_;exact ⟨_,by rw[HF.o],by rw[HF.o];exact ⟨_,_,_,rfl,HE.1,HE.2.1,HE.2.2.keep (af XS)⟩,XS⟩
  ·have hb:(s.id==q)=false:=by simpa using Ex
   have HF:=aa (show findD x q=findD (x.drop (k+1)) q by rw[ez.o,HD.o];unfold findD;rw[List.find?_cons_of_neg (p:=fun d:dy=>d.id==q) (by simpa using Ex)]);clear Ex;go_wp2_with fail;go_round
   case rel=>exact ⟨k+1,by omega,by go_num,HF.o⟩
   case measure=>simp[intOf];omega
def k7 (d:dy):Bool:=qy d.map&&decide (fR d.map 60<60)
def kJ (l:List dy):Bool:=l.all k7&&decide (l.length≤70)
theorem Ey (x:List dy) (v1:Value) (w:World) (h1:eU w v1 x):Calls Tryz.prog 22 #[v1] w fun e w'=>e=.returned (.bool (kJ x))∧Bw w w':=by
 obtain ⟨p,cp,rfl,a1,a2,ha⟩:=h1;have HA:=aa ha;obtain ⟨N,hN⟩:=aG x.length;rw[hN] at a1;rw[hN];have hlc:=fK (n:=N) a2;have HN:=aa hN;clear ha hN a1 a2;go_enter Tryz.func22,Tryz.ntmps22;go_wp2_with fail;go_loopw [3] (fun i wr=>∃k:Nat,k≤N∧i=.int .i64 k∧(∀(j:Nat) a,j<k→x[j]?=some a→k7 a=true)∧Bw w wr) (fun i _=>N-(intOf i).toNat)
 case atStart=>exact ⟨0,dQ,rfl,fun j a hj=>by omega,aH⟩
 case round=>
  obtain ⟨k,hk,rfl,hall,hb⟩:=hrel;have ez:=aa hall;have HB:=aa hb;clear hall hb;by_cases hlt:k<N
  case neg=>
   obtain rfl:k=N:=by omega
   have HF:=aa (show kJ x=decide (k≤70) by
    unfold kJ;rw[HN.o,show x.all k7=true from List.all_eq_true.2 (fun a ha=>by
     obtain ⟨j,hj⟩:=List.mem_iff_getElem?.1 ha;exact ez j a (by have:=(List.getElem?_eq_some_iff.1 hj).1;have:=HN.o;omega) hj),Bool.true_and])
   go_wp2_with fail;go_ret;refine ⟨aO ?_,HB⟩;rw[HF.o,decide_eq_decide];omega
  have fO:(k:Int)<(N:Int):=by omega
  obtain ⟨s,hs⟩:=fy (l:=x) (k:=k) (by rw[HN.o];omega);obtain ⟨i1,i2,g,o,a,b,c,rfl,e0,e1,e2,e3,e4,e5⟩:=HA.o k s hs;have HV:=aa (show V5 g (o+k*5) s.id s.size a b c wr from V5.below ⟨e0,e1,e2,e3,e4⟩ HB);have zH:=aa (e5.keep (af HB));have HS:=aa hs;clear hs e0 e1 e2 e3 e4 e5 i1 i2;obtain ⟨_,_,r2,r3,r4⟩:=HV.o;go_wp2_with fail;refine (J8 s.map a b c _ zH).mono ?_;rintro e w1 ⟨rfl,hb⟩;have aZ:=aV HB hb;have QG:=aa (HV.below hb);have ajB:=aa (zH.keep (af hb));clear hb r2 r3 r4;have hno:k7 s=false→kJ x=false:=fun h=>by unfold kJ;rw[show x.all k7=false from List.all_eq_false.2 ⟨s,List.mem_of_getElem? HS,by rw[h];simp⟩,Bool.false_and]
  have oP:=aa hno;clear hno;obtain ⟨bb,jf⟩:=aG (qy s.map);rw[jf];have uI:=aa jf;clear jf;obtain ⟨_,_,r2,r3,r4⟩:=QG.o;cases bb with
  |false=>go_wp2_with fail;go_ret;exact ⟨aO (oP (by unfold k7;rw[uI.o];rfl)).symm,aZ⟩
  |true=>
   go_wp2_with fail;refine (CH s.map a b c 60 _ ajB (by omega) (by omega)).mono ?_;rintro e w2 ⟨rfl,hb⟩;have bU:=aV aZ hb;clear hb r2 r3 r4;obtain ⟨C,hC⟩:=aG (fR s.map 60);rw[hC];have HCE:=aa hC;clear hC;by_cases hlt60:C<60
   ·have hd:decide (60≤C)=false:=by rw[decide_eq_false_iff_not];omega
    have HT:=aa (show k7 s=true by unfold k7;rw[uI.o,HCE.o,decide_eq_true hlt60];rfl);clear hlt60;go_wp2_with fail;go_roundw
    case rel=>
     refine ⟨k+1,by omega,by go_num,fun j a' hj jg=>?_,bU.o⟩;by_cases e:j=k
     ·subst e;rw[HS.o] at jg;cases jg;exact HT.o
     ·exact ez j a' (by omega) jg
    case measure=>simp[intOf];omega
   ·have hd:decide (60≤C)=true:=by rw[decide_eq_true_eq];omega
    have HT:=aa (show k7 s=false by unfold k7;rw[uI.o,HCE.o,decide_eq_false hlt60];rfl);clear hlt60;go_wp2_with fail;go_ret;exact ⟨aO (oP HT).symm,bU⟩
def XT (l:List dy):Prop:=(∀d∈l,cI d=true)∧Q8 l∧l.length≤64
noncomputable def dR (l:List dy):Bool := @decide (XT l) (Classical.propDecidable _)
theorem dw {l:List dy}:dR l=true↔XT l:=by unfold dR;exact @decide_eq_true_iff _ (Classical.propDecidable _)
theorem qF {l:List dy} {k:Nat} {d:dy} (h:l[k]?=some d) (hd:cI d=false):dR l=false:=by rw[← Bool.not_eq_true,dw];rintro ⟨h1,_⟩;have:=h1 d (List.mem_of_getElem? h);rw[hd] at this;exact absurd this (by simp)
theorem qG {l:List dy} {k:Nat} {a b:dy} (ha:l[k]?=some a) (hb:l[k+1]?=some b) (h:¬a.id<b.id):dR l=false:=by rw[← Bool.not_eq_true,dw];rintro ⟨_,h2,_⟩;exact h (h2 k a b ha hb)
theorem CP {l:List dy} (h1:∀(j:Nat) a,l[j]?=some a→cI a=true) (h2:Q8 l):dR l=decide (l.length≤64):=by
 by_cases h:l.length≤64
 ·rw[decide_eq_true h,dw]
  exact ⟨fun d hd=>by obtain ⟨j,hj⟩:=List.mem_iff_getElem?.1 hd;exact h1 j d hj,h2,h⟩
 ·rw[decide_eq_false h,← Bool.not_eq_true,dw];rintro ⟨_,_,h3⟩;exact h h3
theorem tD (x:List dy) (v1:Value) (w:World) (h1:eU w v1 x) (l1:bO x):Calls Tryz.prog 86 #[v1] w fun e w'=>e=.returned (.bool (dR x))∧Bw w w':=by
 obtain ⟨p,cp,rfl,a1,a2,ha⟩:=h1;have HA:=aa ha;obtain ⟨N,hN⟩:=aG x.length;rw[hN] at a1;rw[hN];have hlc:=fK (n:=N) a2;have HN:=aa hN;have xJ:=aa l1;clear ha hN a1 a2 l1;go_enter Tryz.func86,Tryz.ntmps86;go_wp2_with fail;go_loopw [3] (fun i wr=>∃k:Nat,k≤N∧i=.int .i64 k∧(∀(j:Nat) a,j<k→x[j]?=some a→cI a=true)∧(∀(j:Nat) a b,j+1<k→x[j]?=some a→x[j+1]?=some b→a.id<b.id)∧Bw w wr) (fun i _=>N-(intOf i).toNat)
 case atStart=>exact ⟨0,dQ,rfl,fun j a hj=>by omega,fun j a b hj=>by omega,aH⟩
 case round=>
  obtain ⟨k,hk,rfl,hall,Rb,hb⟩:=hrel;have ez:=aa hall;have XU:=aa Rb;have HB:=aa hb;clear hall hb Rb;by_cases hlt:k<N
  case neg=>
   obtain rfl:k=N:=by omega
   have HF:=aa (show dR x=decide (k≤64) by
    rw[CP (fun j a h=>ez j a (by have:=(List.getElem?_eq_some_iff.1 h).1;have:=HN.o;omega) h) (fun j a b ha hb=>XU j a b (by have:=(List.getElem?_eq_some_iff.1 hb).1;have:=HN.o;omega) ha hb),HN.o])
   go_wp2_with fail;go_ret;refine ⟨aO ?_,HB⟩;rw[HF.o,decide_eq_decide];omega
  have fO:(k:Int)<(N:Int):=by omega
  obtain ⟨s,hs⟩:=fy (l:=x) (k:=k) (by rw[HN.o];omega);obtain ⟨i1,i2,g,o,a,b,c,rfl,e0,e1,e2,e3,e4,e5⟩:=HA.o k s hs;have HV:=aa (show V5 g (o+k*5) s.id s.size a b c wr.drew from V5.below (V5.below ⟨e0,e1,e2,e3,e4⟩ HB) aH.drew);have HX:=aa (show vK wr.drew (.agg #[.int .i64 s.id,.int .i64 s.size,a,b,c]) s from ⟨a,b,c,rfl,i1,i2,(e5.keep (af HB)).keep (af aH.drew)⟩);have HS:=aa hs;have HM:=aa (xJ.o s (List.mem_of_getElem? hs));clear hs e0 e1 e2 e3 e4 e5 i1 i2;obtain ⟨r0,r1,r2,r3,r4⟩:=HV.o;cases hr:cI s with
  |false=>have HT:=aa hr;clear hr;have HF:=aa (qF HS HT);go_wp2_with fail;refine wp_region_held_drew (S:=fun w'=>w'.cell? ⟨g,o+k*5,none⟩=some (.int .i64 s.id)∧w'.cell? ⟨g,o+k*5+1,none⟩=some (.int .i64 s.size)∧w'.cell? ⟨g,o+k*5+2,none⟩=some a∧w'.cell? ⟨g,o+k*5+3,none⟩=some b∧w'.cell? ⟨g,o+k*5+4,none⟩=some c) (by kernel_rfl) ⟨r0,r1,r2,r3,r4⟩ (fun hHeld=>?_);refine cD 0 10 (.slice (some ⟨g,o,none⟩) N cp) rfl rfl hHeld ?_;simp only[aF];refine cD 1 11 (.int .i64 k) rfl rfl hHeld ?_;simp only[aF];refine cD 2 12 (.pointer (some ⟨g,o+k*5,none⟩)) rfl rfl hHeld ?_;simp only[aF];refine cD 3 13 (.agg #[.int .i64 s.id,.int .i64 s.size,a,b,c]) rfl rfl hHeld ?_;simp only[aF];refine kn 4 rfl (fun K hK=>?_);go_simp;refine (mq s _ _ HX HM).mono ?_;rintro e w1 ⟨rfl,hb⟩;have aZ:=aa (ak HB.drew hb);have gG:=aa (show _∧_∧_∧_∧_ from ⟨ae hb r0,ae hb r1,ae hb r2,ae hb r3,ae hb r4⟩);clear hb hHeld r0 r1 r2 r3 r4;rw[HT.o];go_simp;refine hK.out _ _ gG (fun hHeld=>?_);clear hK K;refine cD 5 15 (.bool true) rfl rfl hHeld ?_;simp only[aF];refine cD 6 16 (.bool true) rfl rfl hHeld ?_;simp only[aF];refine nV 7 17 rfl rfl hHeld ?_;simp only[aF];refine nV 8 18 rfl rfl hHeld ?_;simp only[aF];refine nV 9 19 rfl rfl hHeld ?_;simp only[aF];refine nV 10 20 rfl rfl hHeld ?_;simp only[aF];refine nV 11 21 rfl rfl hHeld ?_;simp only[aF];refine nV 12 22 rfl rfl hHeld ?_;simp only[aF];refine nV 13 23 rfl rfl hHeld ?_;simp only[aF];refine nV 14 24 rfl rfl hHeld ?_;simp only[aF];refine nV 15 25 rfl rfl hHeld ?_;simp only[aF];refine nV 16 26 rfl rfl hHeld ?_;simp only[aF];refine nV 17 27 rfl rfl hHeld ?_;simp only[aF];refine nV 18 28 rfl rfl hHeld ?_;simp only[aF];refine nV 19 29 rfl rfl hHeld ?_;simp only[aF];refine nV 20 30 rfl rfl hHeld ?_;simp only[aF];refine nV 21 31 rfl rfl hHeld ?_;simp only[aF];refine nV 22 32 rfl rfl hHeld ?_;simp only[aF];refine cD 23 33 (.bool true) rfl rfl hHeld ?_;simp only[aF];refine wpAnyH_done (by kernel_rfl) ?_ _;go_wp2_with fail;go_ret;exact ⟨aO HF.symm,aZ⟩
  |true=>
   have HT:=aa hr;clear hr;rcases Nat.eq_zero_or_pos k with Np|Np
   ·subst Np
    simp only[Nat.zero_mul,Nat.add_zero] at r0 r1 r2 r3 r4 fO hlt ⊢;go_wp2_with fail;refine wp_region_held_drew (S:=fun w'=>w'.cell? ⟨g,o,none⟩=some (.int .i64 s.id)∧w'.cell? ⟨g,o+1,none⟩=some (.int .i64 s.size)∧w'.cell? ⟨g,o+2,none⟩=some a∧w'.cell? ⟨g,o+3,none⟩=some b∧w'.cell? ⟨g,o+4,none⟩=some c) (by kernel_rfl) ⟨r0,r1,r2,r3,r4⟩ (fun hHeld=>?_);refine cD 0 10 (.slice (some ⟨g,o,none⟩) N cp) rfl rfl hHeld ?_;simp only[aF];refine cD 1 11 (.int .i64 0) rfl rfl hHeld ?_;simp only[aF];refine cD 2 12 (.pointer (some ⟨g,o,none⟩)) rfl rfl hHeld ?_;simp only[aF];refine cD 3 13 (.agg #[.int .i64 s.id,.int .i64 s.size,a,b,c]) rfl rfl hHeld ?_;simp only[aF];refine kn 4 rfl (fun K hK=>?_);go_simp;refine (mq s _ _ HX HM).mono ?_;rintro e w1 ⟨rfl,hb⟩;have aZ:=aa (ak HB.drew hb);have gG:=aa (show _∧_∧_∧_∧_ from ⟨ae hb r0,ae hb r1,ae hb r2,ae hb r3,ae hb r4⟩);clear hb hHeld r0 r1 r2 r3 r4;rw[HT.o];go_simp;refine hK.out _ _ gG (fun hHeld=>?_);clear hK K;refine cD 5 15 (.bool false) rfl rfl hHeld ?_;simp only[aF];refine cD 6 16 (.bool false) rfl rfl hHeld ?_;simp only[aF];refine cD 7 17 (.int .i64 0) rfl rfl hHeld ?_;simp only[aF];refine cD 8 18 (.bool false) rfl rfl hHeld ?_;simp only[aF];refine cD 9 19 (.bool false) rfl rfl hHeld ?_;simp only[aF];refine nV 10 20 rfl rfl hHeld ?_;simp only[aF];refine nV 11 21 rfl rfl hHeld ?_;simp only[aF];refine nV 12 22 rfl rfl hHeld ?_;simp only[aF];refine nV 13 23 rfl rfl hHeld ?_;simp only[aF];refine nV 14 24 rfl rfl hHeld ?_;simp only[aF];refine nV 15 25 rfl rfl hHeld ?_;simp only[aF];refine nV 16 26 rfl rfl hHeld ?_;simp only[aF];refine nV 17 27 rfl rfl hHeld ?_;simp only[aF];refine nV 18 28 rfl rfl hHeld ?_;simp only[aF];refine nV 19 29 rfl rfl hHeld ?_;simp only[aF];refine nV 20 30 rfl rfl hHeld ?_;simp only[aF];refine nV 21 31 rfl rfl hHeld ?_;simp only[aF];refine cD 22 32 (.bool false) rfl rfl hHeld ?_;simp only[aF];refine cD 23 33 (.bool false) rfl rfl hHeld ?_;simp only[aF];refine wpAnyH_done (by kernel_rfl) ?_ _;go_wp2_with fail;go_roundw
    case rel=>
     refine ⟨1,by omega,by go_num,fun j a' hj jg=>?_,fun j a b hj=>by omega,aZ.o⟩;obtain rfl:j=0:=by omega
     rw[HS.o] at jg;cases jg;exact HT.o
    case measure=>simp[intOf];omega
   ·obtain ⟨m,hm⟩:∃m,k=m+1:=⟨k-1,by omega⟩
    obtain ⟨t,ht⟩:=fy (l:=x) (k:=m) (by rw[HN.o];omega);obtain ⟨_,_,g',o',a',b',c',Mo,f0,_⟩:=HA.o m t ht;cases Mo;have t0:wr.drew.cell? ⟨g,o+m*5,none⟩=some (.int .i64 t.id):=ae HB f0;have e5:IntKind.i64.wrap ((k:Int)-1)=(m:Int):=by rw[IntKind.wrap_i64];omega
    have e6:(m:Int)<(N:Int):=(by omega);have hg3:decide (0<k)=true:=by simpa using Np
    have HTT:=aa ht;have sG:=aa hm;clear ht hm f0;by_cases Ci:t.id<s.id
    ·have QE:decide (s.id≤t.id)=false:=by rw[decide_eq_false_iff_not];omega
     have HXY:=aa Ci;clear Ci;go_wp2_with fail;go_region_held3 (fun w'=>w'.cell? ⟨g,o+k*5,none⟩=some (.int .i64 s.id)∧w'.cell? ⟨g,o+k*5+1,none⟩=some (.int .i64 s.size)∧w'.cell? ⟨g,o+k*5+2,none⟩=some a∧w'.cell? ⟨g,o+k*5+3,none⟩=some b∧w'.cell? ⟨g,o+k*5+4,none⟩=some c∧w'.cell? ⟨g,o+m*5,none⟩=some (.int .i64 t.id))
      (first|exact ⟨r0,r1,r2,r3,r4,t0⟩|exact gG.o)
      (((with_reducible refine (mq s _ _ HX.o HM.o).mono ?_);rintro e w1 ⟨rfl,hb⟩;rw[HT.o];have aZ:=aa (ak HB.o.drew hb);have gG:=aa (show _∧_∧_∧_∧_∧_ from ⟨ae hb r0,ae hb r1,ae hb r2,ae hb r3,ae hb r4,ae hb t0⟩);clear hb))
     clear r0 r1 r2 r3 r4 t0;go_wp2_with fail;go_roundw
     case rel=>
      refine ⟨k+1,by omega,by go_num,fun j a' hj jg=>?_,fun j a' b' hj jg B1=>?_,aZ.o⟩
      ·by_cases e:j=k
       ·subst e;rw[HS.o] at jg;cases jg;exact HT.o
       ·exact ez j a' (by omega) jg
      ·by_cases e:j+1=k
       ·obtain rfl:j=m:=by have:=sG.o;omega
        rw[HTT.o] at jg;rw[e,HS.o] at B1;cases jg;cases B1;exact HXY.o
       ·exact XU j a' b' (by omega) jg B1
     case measure=>simp[intOf];omega
    ·have QE:decide (s.id≤t.id)=true:=by rw[decide_eq_true_eq];omega
     have XP:s.id≤t.id:=(by omega);have HF:=aa (qG HTT (show x[m+1]?=some s by rw[← sG.o];exact HS) Ci);clear Ci;go_wp2_with fail;go_region_held3 (fun w'=>w'.cell? ⟨g,o+k*5,none⟩=some (.int .i64 s.id)∧w'.cell? ⟨g,o+k*5+1,none⟩=some (.int .i64 s.size)∧w'.cell? ⟨g,o+k*5+2,none⟩=some a∧w'.cell? ⟨g,o+k*5+3,none⟩=some b∧w'.cell? ⟨g,o+k*5+4,none⟩=some c∧w'.cell? ⟨g,o+m*5,none⟩=some (.int .i64 t.id))
      (first|exact ⟨r0,r1,r2,r3,r4,t0⟩|exact gG.o)
      (((with_reducible refine (mq s _ _ HX.o HM.o).mono ?_);rintro e w1 ⟨rfl,hb⟩;rw[HT.o];have aZ:=aa (ak HB.o.drew hb);have gG:=aa (show _∧_∧_∧_∧_∧_ from ⟨ae hb r0,ae hb r1,ae hb r2,ae hb r3,ae hb r4,ae hb t0⟩);clear hb))
     clear r0 r1 r2 r3 r4 t0;go_wp2_with fail;go_ret;exact ⟨aO HF.symm,aZ⟩
noncomputable def mask (F:Nat→Prop) (w:World):World:={w with heap:=w.heap.mapIdx fun i o => @ite _ (F i) (Classical.propDecidable _) o (.map #[] 0)}
theorem ar {F:Nat→Prop} {w:World} {a:Addr} {v:Value}:(mask F w).cell? a=some v↔F a.block∧w.cell? a=some v:=by
 unfold mask World.cell?;simp only[Array.getElem?_mapIdx];cases h:w.heap[a.block]? with
 |none=>simp
 |some o=>
  by_cases hf:F a.block
  ·simp[hf]
  ·simp[hf]
theorem bI {F F':Nat→Prop} {w w':World} (h:∀(a:Addr) (v:Value),F a.block→w.cell? a=some v→F' a.block∧w'.cell? a=some v):dJ (mask F w) (mask F' w'):=fun a v hv=>by rw[ar] at hv ⊢;exact h a v hv.1 hv.2
theorem nO {F:Nat→Prop} {w:World}:dJ (mask F w) w:=fun _a _v hv=>(ar.1 hv).2
def qH (d:dy) (r:Value×Value×Value):List Value:=[.int .i64 d.id,.int .i64 d.size,r.1,r.2.1,r.2.2]
def fV (l:List (dy×(Value×Value×Value))):List Value:=(l.map fun x=>qH x.1 x.2).flatten
theorem uJ (l:List (dy×(Value×Value×Value))) (x:dy×(Value×Value×Value)):fV (l++[x])=fV l++qH x.1 x.2:=by unfold fV;rw[List.map_append,List.flatten_append];simp
theorem nh (l:List (dy×(Value×Value×Value))):(fV l).length=l.length*5:=by
 induction l with
 |nil=>rfl
 |cons a l ih=>unfold fV qH at ih ⊢;simp only[List.map_cons,List.flatten_cons,List.length_append,List.length_cons,List.length_nil,ih];omega
theorem lA (l:List (dy×(Value×Value×Value))):∀(i:Nat) x,l[i]?=some x→∀j u,(qH x.1 x.2)[j]?=some u→(fV l)[i*5+j]?=some u:=by
 induction l with
 |nil=>intro i x h;simp at h
 |cons a l ih=>
  intro i x h j u hj;have e:fV (a::l)=qH a.1 a.2++fV l:=by unfold fV;simp
  have e5:(qH a.1 a.2).length=5:=rfl;rw[e];cases i with
  |zero=>simp only[List.getElem?_cons_zero,Option.some.injEq] at h;subst h;have Ez:=(List.getElem?_eq_some_iff.1 hj).1;rw[Nat.zero_mul,Nat.zero_add,List.getElem?_append_left Ez];exact hj
  |succ i=>rw[List.getElem?_cons_succ] at h;rw[List.getElem?_append_right (by omega),e5,show (i+1)*5+j-5=i*5+j by omega];exact ih i x h j u hj
def EA (w:World) (B:Nat) (v:Value) (l:List dy):Prop:=
 ∃xs:List (dy×(Value×Value×Value)),xs.map Prod.fst=l∧w.ownsRow B 75 5 v l.length (fV xs)∧∀x∈xs,aP x.1.id∧aP x.1.size∧bw (mask (fun b=>some b≠v.ownBlock) w) x.1.map x.2.1 x.2.2.1 x.2.2.2
theorem EA.at {w:World} {B:Nat} {v:Value} {l:List dy} (h:EA w B v l):eU w v l:=by
 obtain ⟨xs,rfl,hown,hx⟩:=h;rw[List.length_map] at hown;rcases aK hown with ⟨hv,hn,_⟩|⟨g,cap,hv⟩
 ·exact ⟨none,0,by rw[hv,List.length_map,hn],by rw[List.length_map];omega,by unfold maxLen;omega,fun i x hx=>by rw[List.eq_nil_of_length_eq_zero hn] at hx;simp at hx⟩
 ·subst hv
  obtain ⟨_,_,_,h3,h4,_⟩:=bp hown;refine ⟨_,cap,by rw[List.length_map],by rw[List.length_map];exact h3,h4,fun i d hd=>?_⟩;rw[List.getElem?_map] at hd;cases vJ:xs[i]? with
  |none=>rw[vJ] at hd;simp at hd
  |some x=>
   rw[vJ] at hd;simp only[Option.map_some,Option.some.injEq] at hd;subst hd;obtain ⟨i1,i2,i3⟩:=hx x (List.mem_of_getElem? vJ);have hl:=nh xs;have hi:=(List.getElem?_eq_some_iff.1 vJ).1;have hc:∀j u,(qH x.1 x.2)[j]?=some u→w.cell? ⟨g,0+i*5+j,none⟩=some u:=fun j u hj=>by have h5:j<5:=(List.getElem?_eq_some_iff.1 hj).1;have h6:=lA xs i x vJ j u hj;obtain ⟨h7,h8⟩:=List.getElem?_eq_some_iff.1 h6;rw[Nat.zero_add,bJ hown (i*5+j) h7,h8]
   exact ⟨i1,i2,g,0,x.2.1,x.2.2.1,x.2.2.2,rfl,hc 0 _ rfl,hc 1 _ rfl,hc 2 _ rfl,hc 3 _ rfl,hc 4 _ rfl,i3.keep nO⟩
theorem Rc:(Tryz.prog.info? 75).map (fun i=>(i.zero,i.size,i.bytes))=some (some (.agg #[.int .i64 0,.int .i64 0,.slice none 0 0,.slice none 0 0,.slice none 0 0]),5,88):=by kernel_rfl
def gO (w:World) (c:Nat) (s:vQ):Prop:=w.heap[c]?=some (.cells #[.int .i64 s.1,.bool s.2.1,.int .i64 s.2.2] 264 (0,0))
theorem gO.lt {w:World} {c:Nat} {s:vQ} (h:gO w c s):c<w.heap.size:=(Array.getElem?_eq_some_iff.1 h).1
theorem gO.c0 {w:World} {c:Nat} {s:vQ} (h:gO w c s):w.cell? ⟨c,0,none⟩=some (.int .i64 s.1):=by unfold gO at h;simp[World.cell?,h]
theorem gO.c1 {w:World} {c:Nat} {s:vQ} (h:gO w c s):w.cell? ⟨c,1,none⟩=some (.bool s.2.1):=by unfold gO at h;simp[World.cell?,h]
theorem gO.c2 {w:World} {c:Nat} {s:vQ} (h:gO w c s):w.cell? ⟨c,2,none⟩=some (.int .i64 s.2.2):=by unfold gO at h;simp[World.cell?,h]
theorem gO.fr {w:World} {c:Nat} {s:vQ} (h:gO w c s) (j:Nat):w.frozen? ⟨c,j,none⟩=false:=by unfold gO at h;simp[World.frozen?,h]
theorem gO.qI {w:World} {c:Nat} {s:vQ} (h:gO w c s) (d:Int):gO (w.setCell ⟨c,0,none⟩ (.int .i64 d)) c (d,s.2):=by unfold gO at h ⊢;rw[setCell_eq_setRow w c 0 _ _ _ _ h,setRow_heap w c _ _ _ _ h];rfl
theorem gO.zO {w:World} {c:Nat} {s:vQ} (h:gO w c s) (b:Bool):gO (w.setCell ⟨c,1,none⟩ (.bool b)) c (s.1,(b,s.2.2)):=by unfold gO at h ⊢;rw[setCell_eq_setRow w c 1 _ _ _ _ h,setRow_heap w c _ _ _ _ h];rfl
theorem gO.yQ {w:World} {c:Nat} {s:vQ} (h:gO w c s) (k:Int):gO (w.setCell ⟨c,2,none⟩ (.int .i64 k)) c (s.1,(s.2.1,k)):=by unfold gO at h ⊢;rw[setCell_eq_setRow w c 2 _ _ _ _ h,setRow_heap w c _ _ _ _ h];rfl
theorem gO.grown {w w':World} {c:Nat} {s:vQ} {row:Option Nat} (h:gO w c s) (hg:w.grownBy w' row) (hne:some c≠row):gO w' c s:=by unfold gO at h ⊢;rw[hg.block c (Array.getElem?_eq_some_iff.1 h).1 hne];exact h
theorem aw (w:World) (c j:Nat) (v:Value):w.grownBy (w.setCell ⟨c,j,none⟩ v) (some c):=by refine ⟨rfl,rfl,rfl,by simp,fun k hk hne=>?_⟩;have:k≠c:=fun e=>hne (by rw[e]);exact Below.heap_setCell _ _ _ k this
theorem zP (w:World) (row:Option Nat):w.grownBy w.drew row:=⟨rfl,rfl,rfl,aT,fun _ _ _=>rfl⟩
theorem xK (w:World) (q:Nat) (row:Option Nat):w.grownBy (w.drewN q) row:=⟨rfl,rfl,rfl,aT,fun _ _ _=>rfl⟩
theorem Gt {w w':World} {c:Nat} (h:w.grownBy w' (some c)) (hc:c≤w.heap.size):Below c w w':=⟨h.os,h.tape,h.output,h.size,fun k hk=>h.block k (by omega) (fun e=>by injection e with e;omega)⟩
abbrev Ke (c:Nat):Nat→Prop:=fun b=>b≠c
theorem tE {w w':World} {c:Nat} {t:ag} {x y z:Value} (h:bw (mask (Ke c) w) t x y z) (hg:w.grownBy w' (some c)):bw (mask (Ke c) w') t x y z:=
 h.keep (bI fun a v hf hv=>⟨hf,hg.cell hv (fun e=>hf (by injection e))⟩)
def gY (o:Option vQ) (c:Nat) (w w':World):Prop:=(∀s',o=some s'→gO w' c s')∧w.grownBy w' (some c)
theorem gY.no {c:Nat} {w w':World} (h:w.grownBy w' (some c)):gY none c w w':=⟨fun _ h=>(by cases h),h⟩
theorem gY.yes {c:Nat} {w w':World} {s:vQ} (hs:gO w' c s) (h:w.grownBy w' (some c)):gY (some s) c w w':=⟨fun _ h=>(by cases h;exact hs),h⟩
theorem masked {w:World} {c:Nat} {a:Addr} {v:Value} (h:(mask (Ke c) w).cell? a=some v):a.block≠c∧w.cell? a=some v:=ar.1 h
theorem Re (ks vs:List Int) (kids:List ag) (x y z:Value) (c:Nat) (s:vQ) (depth:Int) (w:World) (hn:bw (mask (Ke c) w) (.mk ks vs kids) x y z) (hc:gO w c s) :
 Calls Tryz.prog 229 #[.pointer (some ⟨c,0,none⟩),.agg #[x,y,z],.int .i64 depth] w fun e w'=>e=.returned (.bool (mf ks vs depth s).isSome)∧gY (mf ks vs depth s) c w w':=by
 obtain ⟨⟨pa,ca,rfl,a1,a2,ha⟩,⟨pb,cb,rfl,b1,b2,_⟩,⟨pc,cc,rfl,_,_,_⟩⟩:=bD.1 hn;simp only[ag.keys,ag.vals,ag.kids] at a1 b1 ha ⊢;obtain ⟨K,hK⟩:=aG ks.length;obtain ⟨M,hM⟩:=aG vs.length;obtain ⟨N,hN⟩:=aG kids.length;rw[hK] at a1 ⊢;rw[hM] at b1 ⊢;rw[hN];have hla:=fK (n:=K) a2;have hlb:=fK (n:=M) b2;have vN:=aa hK;have qA:=aa hM;have XN:=aa ha;have HC:=aa hc;have ajC:=hc.lt;have Rf:c≠w.heap.size:=by omega
 have hL:mf ks vs depth s=if M=K∧(s.1=0∨s.1=depth) then (ig ks s.2).map fun q=>(depth,q) else none:=by unfold mf;rw[hK,hM]
 have HL:=aa hL;have hg0:w.grownBy (w.alloc (.cells #[.slice pa K ca,.slice pb M cb,.slice pc N cc] 73)) (some c):=World.grownBy_alloc _ _ _;have FF:=aa hg0;have Kf:=aa (hc.grown (World.grownBy_alloc w (.cells #[.slice pa K ca,.slice pb M cb,.slice pc N cc] 73) none) (by simp));clear hn ha a1 a2 b1 b2 hK hM hN hL hg0 hc;by_cases hv:M=K
 case neg=>
  have hne:((M:Int) != (K:Int))=true:=by rw[bne_iff_ne];omega
  have HF:=aa (show mf ks vs depth s=none by rw[HL.o,if_neg (fun h=>hv h.1)]);clear hv;go_enter Tryz.func229,Tryz.ntmps229;go_wp2_with fail;go_ret;exact ⟨aO (by rw[HF.o];rfl),by rw[HF.o];exact gY.no FF⟩
 have hne:((M:Int) != (K:Int))=false:=by rw[hv];simp
 have q0:=Kf.c0;have qf:=Kf.fr 0;by_cases hs:s.1=0∨s.1=depth
 case neg=>
  have HF:=aa (show mf ks vs depth s=none by rw[HL.o,if_neg (fun h=>hs h.2)]);have hz:(s.1==0)=false:=by rw[beq_eq_false_iff_ne];exact fun h=>hs (.inl h)
  have hz2:(s.1 != depth)=true:=by rw[bne_iff_ne];exact fun h=>hs (.inr h)
  clear hv hs;go_enter Tryz.func229,Tryz.ntmps229;go_wp2_with fail;go_ret;exact ⟨aO (by rw[HF.o];rfl),by rw[HF.o];exact gY.no FF⟩
 have HF:=aa (show mf ks vs depth s=(ig ks s.2).map fun q=>(depth,q) by rw[HL.o,if_pos ⟨hv,hs⟩]);subst hv;have hz2:(depth != depth)=false:=by simp
 have HS:=aa hs;clear hs;have Vi:(s.1=0)∨((s.1==0)=false∧s.1=depth):=by
  by_cases h0:s.1=0
  ·exact .inl h0
  ·refine .inr ⟨by simpa using h0,?_⟩
   rcases HS.o with h|h
   ·exact absurd h h0
   ·exact h
 have FH:=aa (show gT w.heap.size (.slice pa M ca) (.slice pb M cb) (.slice pc N cc) (w.alloc (.cells #[.slice pa M ca,.slice pb M cb,.slice pc N cc] 73)) from ⟨by simp,by simp,by simp⟩);obtain ⟨WA,kS⟩:∃W,w.alloc (.cells #[.slice pa M ca,.slice pb M cb,.slice pc N cc] 73)=W:=⟨_,rfl⟩
 rw[kS] at FH Kf FF q0 qf;have Vj:=aa kS;clear kS hne;obtain ⟨x0,x1,x2⟩:=FH.o;have hlx:=World.block_lt_of_cell? _ _ x0;have XU:=aa Vi;clear Vi;go_enter Tryz.func229,Tryz.ntmps229;go_upto_region 1 with fail;rw[Vj.o];go_upto_if 20 with fail;go_cut [] from 20 to 24 (fun wx=>gO wx c (depth,s.2)∧w.grownBy wx (some c)∧gT w.heap.size (.slice pa M ca) (.slice pb M cb) (.slice pc N cc) wx)
 case first=>
  rcases XU.o with h0|⟨h0,h1⟩
  ·have hz:(s.1==0)=true:=by rw[h0];rfl
   clear h0;go_wp2_with fail;go_meet
   case rel=>exact ⟨Kf.qI depth,FF.trans (aw WA c 0 (.int .i64 depth)),FH.grown (aw WA c 0 (.int .i64 depth)) (by intro e;injection e with e;omega)⟩
  ·have HH:=aa h1
   clear h1;go_wp2_with fail;go_meet
   case rel=>refine ⟨?_,FF,FH⟩;have:=Kf.o;rw[show s=(depth,s.2) from Prod.ext HH.o rfl] at this;exact this
 case rest=>
  obtain ⟨hc1,hg1,hx1⟩:=hcut;have tB:=aa hc1;have Mp:=aa hg1;have aU:=aa hx1;clear hc1 hg1 x0 x1 x2 hlx q0 qf Kf FF FH Vj XU;obtain ⟨x0,x1,x2⟩:=hx1;have hlx:=World.block_lt_of_cell? _ _ x0;have q0:=tB.c0;simp only at q0;go_wp2_with fail;go_loopw [34,8] (fun i _ wr=>∃(k:Nat) (st:Nq),k≤M∧i=.int .i64 k∧ig ks s.2=ig (ks.drop k) st∧gO wr c (depth,st)∧w.grownBy wr (some c)) (fun i _ _=>M-(intOf i).toNat)
  case atStart=>exact ⟨0,s.2,dQ,rfl,by rw[List.drop_zero],tB,Mp⟩
  case round=>
   clear x0 x1 x2 hlx q0;obtain ⟨k,st,hk,rfl,QH,Y0,hgr⟩:=hrel;have HK:=aa QH;have Gu:=aa Y0;have vV:=aa hgr;clear QH Y0 hgr;by_cases hlt:k<M
   case neg=>
    obtain rfl:k=M:=by omega
    have HS:=aa (show mf ks vs depth s=some (depth,st) by rw[HF.o,HK.o,List.drop_of_length_le (by rw[vN.o];exact aT)];rfl);go_wp2_with fail;go_ret;exact ⟨aO (by rw[HS.o];rfl),by rw[HS.o];exact gY.yes Gu vV⟩
   have fO:(k:Int)<(M:Int):=(by omega);obtain ⟨y,hy⟩:=fy (l:=ks) (k:=k) (by rw[vN.o];exact hlt);obtain ⟨_,ga,oa,rfl,Rg⟩:=XN.o k y hy;obtain ⟨hne,Rg⟩:=masked Rg;have ry:=vV.cell Rg (fun e=>hne (by injection e));have hd:ks.drop k=y::ks.drop (k+1):=by obtain ⟨hk2,hx⟩:=List.getElem?_eq_some_iff.1 hy;rw[List.drop_eq_getElem_cons hk2,hx]
   have HD:=aa hd;have QZ:=aa hne;obtain ⟨bg,la⟩:=st;have p1:=Gu.c1;have p2:=Gu.c2;have f1:=Gu.fr 1;have f2:=Gu.fr 2;simp only at p1 p2;clear hy hd Rg hne;by_cases xL:bg=true∧y≤la
   ·obtain ⟨rfl,hyl⟩:=xL
    have HS:=aa (show mf ks vs depth s=none by rw[HF.o,HK.o,HD.o];simp only[ig];rw[if_pos ⟨trivial,hyl⟩];rfl);have QE:decide (y≤la)=true:=decide_eq_true hyl;go_wp2_with fail;go_ret;exact ⟨aO (by rw[HS.o];rfl),by rw[HS.o];exact gY.no vV⟩
   ·have HS:=aa (show ig ks s.2=ig (ks.drop (k+1)) (true,y) by rw[HK.o,HD.o];simp only[ig];rw[if_neg xL])
    have hb:bg=false∨(bg=true∧decide (y≤la)=false):=by
     cases bg
     ·exact .inl rfl
     ·exact .inr ⟨rfl,decide_eq_false (fun h=>xL ⟨rfl,h⟩)⟩
    clear xL;rcases hb with rfl|⟨rfl,QE⟩
    all_goals
     go_wp2_with fail;go_roundw
     case rel=>exact ⟨k+1,(true,y),by omega,by go_num,HS.o,(Gu.o.zO true).yQ y,(vV.o.trans (aw _ c 1 _)).trans (aw _ c 2 _)⟩
     case measure=>simp[intOf];omega
theorem Gv {u:ag} {us:List ag} {y:Int} {ys:List Int} {depth:Int} {st:vQ} (h:u.keys.length=0∨u.keys.head?≠some y):jC (u::us) (y::ys) depth st=none:=by simp only[jC];exact if_pos h
theorem Kg {u:ag} {us:List ag} {y:Int} {ys:List Int} {depth:Int} {st:vQ} (h:iw u (depth+1) st=none):jC (u::us) (y::ys) depth st=none:=by simp only[jC];rw[h];split <;> rfl
theorem Rh {u:ag} {us:List ag} {y:Int} {ys:List Int} {depth:Int} {st XV:vQ} (h1:u.keys.length≠0) (h2:u.keys.head?=some y) (h:iw u (depth+1) st=some XV):jC (u::us) (y::ys) depth st=jC us ys depth XV:=by simp only[jC];rw[h];exact if_neg (by rintro (e|e);exact h1 e;exact e h2)
theorem Nw {b c:Nat} {x y z:Value} {W W':World} (h:gT b x y z W) (hg:W.grownBy W' (some c)) (hne:b≠c):gT b x y z W':=h.grown hg (fun e=>hne (by injection e))
theorem Ri (t:ag):∀(x y z:Value) (c:Nat) (s:vQ) (depth:Int) (w:World),bw (mask (Ke c) w) t x y z→gO w c s→1≤depth→depth≤41 →
 Calls Tryz.prog 213 #[.pointer (some ⟨c,0,none⟩),.agg #[x,y,z],.int .i64 depth] w fun e w'=>e=.returned (.bool (iw t depth s).isSome)∧gY (iw t depth s) c w w':=by
 induction t using ag.ind with
 |h ks vs kids ih=>
  intro x y z c s depth w hn hc EB Rj;have zD:=aa ih;clear ih;have zH:=aa hn;obtain ⟨⟨pa,ca,rfl,a1,a2,ha⟩,⟨pb,cb,rfl,b1,b2,_⟩,⟨pc,cc,rfl,c1,c2,hk⟩⟩:=bD.1 hn;simp only[ag.keys,ag.vals,ag.kids] at a1 b1 c1 ha hk zH ⊢;have HK:=aa hk;have XN:=aa ha;clear hk hn ha;obtain ⟨K,hK⟩:=aG ks.length;obtain ⟨M,hM⟩:=aG vs.length;obtain ⟨N,hN⟩:=aG kids.length;rw[hK] at a1 zH ⊢;rw[hM] at b1 zH ⊢;rw[hN] at c1 zH ⊢;have hla:=fK (n:=K) a2;have hlb:=fK (n:=M) b2;have hlc:=fK (n:=N) c2;have vN:=aa hK;have qA:=aa hM;have lz:=aa hN;have kR:=aa (show iw (.mk ks vs kids) depth s=if depth>40∨K>4∨(depth>1∧K<2) then none else if N=0 then mf ks vs depth s else if M≠0∨N≠K∨N<2 then none else jC kids ks depth s by simp only[iw];rw[hK,hM,hN]);have ajC:=hc.lt;have Rf:c≠w.heap.size:=by omega
  have hg0:w.grownBy (w.alloc (.cells #[.slice pa K ca,.slice pb M cb,.slice pc N cc] 73)) (some c):=World.grownBy_alloc _ _ _;have FF:=aa hg0;have Kf:=aa (hc.grown (World.grownBy_alloc w (.cells #[.slice pa K ca,.slice pb M cb,.slice pc N cc] 73) none) (by simp));have YW:=aa (tE zH hg0);clear a1 b1 c1 a2 b2 c2 hK hM hN hg0 hc;by_cases hA:depth>40∨K>4∨(depth>1∧K<2)
  ·have HF:=aa (show iw (.mk ks vs kids) depth s=none by rw[kR.o,if_pos hA])
   have Kh:(decide (40<depth)=true)∨(decide (40<depth)=false∧decide (4<K)=true)∨(decide (40<depth)=false∧decide (4<K)=false∧decide (1<depth)=true∧decide (K<2)=true):=by simp only[decide_eq_true_eq,decide_eq_false_iff_not];omega
   clear hA;rcases Kh with h1|⟨h1,h2⟩|⟨h1,h2,h3,h4⟩
   ·go_enter Tryz.func213,Tryz.ntmps213
    go_wp2_with fail;go_ret;exact ⟨aO (by rw[HF.o];rfl),by rw[HF.o];exact gY.no FF.o⟩
   ·have CJ:(4:Int)<(K:Int):=by simp only[decide_eq_true_eq] at h2;omega
    go_enter Tryz.func213,Tryz.ntmps213;go_wp2_with fail;go_ret;exact ⟨aO (by rw[HF.o];rfl),by rw[HF.o];exact gY.no FF⟩
   ·have CJ:¬(4:Int)<(K:Int):=by simp only[decide_eq_false_iff_not] at h2;omega
    have h4':(K:Int)<2:=by simp only[decide_eq_true_eq] at h4;omega
    go_enter Tryz.func213,Tryz.ntmps213;go_wp2_with fail;go_ret;exact ⟨aO (by rw[HF.o];rfl),by rw[HF.o];exact gY.no FF⟩
  have Ki:=aa (show iw (.mk ks vs kids) depth s=if N=0 then mf ks vs depth s else if M≠0∨N≠K∨N<2 then none else jC kids ks depth s by rw[kR.o,if_neg hA]);have h1:decide (40<depth)=false:=by rw[decide_eq_false_iff_not];omega
  have CJ:¬(4:Int)<(K:Int):=by omega
  have h3:(decide (1<depth)=false)∨(decide (1<depth)=true∧¬(K:Int)<2):=by
   by_cases h:1<depth
   ·exact .inr ⟨decide_eq_true h,by omega⟩
   ·exact .inl (decide_eq_false h)
  have aq4:depth≤40:=by omega
  have H3:=aa h3;clear hA kR h3;go_enter Tryz.func213,Tryz.ntmps213;go_upto_region 1 with fail;obtain ⟨WA,kS⟩:∃W,w.alloc (.cells #[.slice pa K ca,.slice pb M cb,.slice pc N cc] 73)=W:=⟨_,rfl⟩
  have FH:=aa (show gT w.heap.size (.slice pa K ca) (.slice pb M cb) (.slice pc N cc) WA by rw[← kS];exact ⟨by simp,by simp,by simp⟩);rw[kS] at Kf FF YW ⊢;clear kS;obtain ⟨x0,x1,x2⟩:=FH.o;have hlx:=World.block_lt_of_cell? _ _ x0;go_cut [26] from 9 to 25 (fun v wx=>v=.bool false∧wx=WA)
  case first=>
   rcases H3.o with h3|⟨h3,h4⟩
   all_goals
    go_wp2_with fail;go_meet
    case rel=>exact ⟨rfl,rfl⟩
  case rest=>
  obtain ⟨rfl,rfl⟩:=hcut;have HBN:=FH;by_cases hB:N=0
  ·have hz:((N:Int)==0)=true:=by rw[hB];rfl
   have HF:=aa (show iw (.mk ks vs kids) depth s=mf ks vs depth s by rw[Ki.o,if_pos hB]);clear hB;go_wp2_with fail;refine (Re ks vs kids _ _ _ c s depth _ YW Kf).mono ?_;rintro e w1 ⟨rfl,hp⟩;have HP:=aa hp;clear hp;obtain ⟨Z,hZ⟩:=aG ((mf ks vs depth s).isSome);rw[hZ];have HZ:=aa hZ;clear hZ;go_wp2_with fail;go_ret;exact ⟨aO (by rw[HF.o];exact HZ.symm),by rw[HF.o];exact ⟨HP.1,FF.trans HP.2⟩⟩
  have hz:((N:Int)==0)=false:=by rw[beq_eq_false_iff_ne];omega
  by_cases hC:M≠0∨N≠K∨N<2
  ·have HF:=aa (show iw (.mk ks vs kids) depth s=none by rw[Ki.o,if_neg hB,if_pos hC])
   have Kh:((M:Int) != 0)=true∨(((M:Int) != 0)=false∧((N:Int) != (K:Int))=true)∨(((M:Int) != 0)=false∧((N:Int) != (K:Int))=false∧(N:Int)<2):=by simp only[bne_iff_ne,bne_eq_false_iff_eq,ne_eq];omega
   clear hC hB;rcases Kh with h1|⟨h1,h2⟩|⟨h1,h2,h3⟩
   all_goals
    go_wp2_with fail;go_ret;exact ⟨aO (by rw[HF.o];rfl),by rw[HF.o];exact gY.no FF⟩
  have HF:=aa (show iw (.mk ks vs kids) depth s=jC kids ks depth s by rw[Ki.o,if_neg hB,if_neg hC]);have Vb:((M:Int) != 0)=false:=by rw[bne_eq_false_iff_eq];omega
  have hnk:((N:Int) != (K:Int))=false:=by rw[bne_eq_false_iff_eq];omega
  have hn2:¬(N:Int)<2:=by omega
  have hNK:N=K:=by omega
  have Vk:=aa hNK;clear hB hC hNK Ki h1 CJ;go_wp2_with fail;go_loopw [57,7,8] (fun i _ _ wr=>∃(k:Nat) (st:vQ),k≤N∧i=.int .i64 k∧jC kids ks depth s=jC (kids.drop k) (ks.drop k) depth st∧gO wr c st∧gT w.heap.size (.slice pa K ca) (.slice pb M cb) (.slice pc N cc) wr∧bw (mask (Ke c) wr) (.mk ks vs kids) (.slice pa K ca) (.slice pb M cb) (.slice pc N cc)∧w.grownBy wr (some c)) (fun i _ _ _=>N-(intOf i).toNat)
  case atStart=>exact ⟨0,s,dQ,rfl,by rw[List.drop_zero,List.drop_zero],Kf,FH,YW,FF⟩
  case round=>
   clear x0 x1 x2 hlx hz;obtain ⟨k,st,hk,rfl,QH,Y0,fN,XL,hgr⟩:=hrel;have Vl:=aa QH;have Gu:=aa Y0;have vV:=aa hgr;have HX:=aa fN;have B6:=aa XL;clear QH Y0 hgr XL;obtain ⟨x0,x1,x2⟩:=fN;have hlx:=World.block_lt_of_cell? _ _ x0;simp only at hlx;by_cases hlt:k<N
   case neg=>
    obtain rfl:k=N:=by omega
    have HS:=aa (show iw (.mk ks vs kids) depth s=some st by rw[HF.o,Vl.o,List.drop_of_length_le (by rw[lz.o];exact aT)];simp only[jC]);go_wp2_with fail;go_ret;exact ⟨aO (by rw[HS.o];rfl),by rw[HS.o];exact gY.yes Gu vV⟩
   have fO:(k:Int)<(N:Int):=(by omega);have hkk:(k:Int)<(K:Int):=by have:=Vk.o;omega
   obtain ⟨u,hu⟩:=fy (l:=kids) (k:=k) (by rw[lz.o];exact hlt);obtain ⟨y,hy⟩:=fy (l:=ks) (k:=k) (by rw[vN.o];omega);have Uw:kids.drop k=u::kids.drop (k+1):=by obtain ⟨hk2,hx⟩:=List.getElem?_eq_some_iff.1 hu;rw[List.drop_eq_getElem_cons hk2,hx]
   have hdy:ks.drop k=y::ks.drop (k+1):=by obtain ⟨hk2,hx⟩:=List.getElem?_eq_some_iff.1 hy;rw[List.drop_eq_getElem_cons hk2,hx]
   have Y1:=Vl.o;rw[Uw,hdy] at Y1;have Vm:=aa Y1;obtain ⟨⟨p1,c1,Vn,_,_,hak⟩,_,p3,c3,XW,_,_,Vf⟩:=bD.1 B6.o;simp only[ag.keys,ag.kids] at Vn hak XW Vf;obtain ⟨g,o,a,b,d,hpc,e1,e2,e3,e4⟩:=Vf k u hu;injection XW with XW hpx1 hpx2;rw[← XW] at hpc;subst hpc;obtain ⟨_,ga,oa,Rk,Rg⟩:=hak k y hy;injection Vn with Vn hpy1 hpy2;rw[← Vn] at Rk;subst Rk;obtain ⟨pu,nu,cu,pv,nv,cv,pw,nw,cw,rfl,rfl,rfl⟩:=bc e4;obtain ⟨⟨pu',cu',hpu,Rl,Vo,huk⟩,_⟩:=bD.1 e4;injection hpu with hpu1 hpu2 hpu3;subst hpu1 hpu2 hpu3;have r1:=(masked e1).2;have r2:=(masked e2).2;have r3:=(masked e3).2;have ry:=(masked Rg).2;have adg:=(masked e1).1;have XX:=(masked Rg).1;simp only at adg XX;have HNU:=aa e4;have HM:=aa (List.mem_of_getElem? hu);have HUK:=aa huk;have ajH:=World.block_lt_of_cell? _ _ r1;have halt:=World.block_lt_of_cell? _ _ ry;simp only at ajH halt;obtain ⟨KU,hKU⟩:=aG u.keys.length;rw[hKU] at Rl HNU r1;have HKU:=aa hKU;have vM:=fK (n:=KU) Vo;have aZ:=aa (show Bw wr (wr.alloc (.cells #[.slice pu KU cu,.slice pv nv cv,.slice pw nw cw] 73)) from aq);have HY:=aa hy;obtain ⟨W1,hW1⟩:∃W,wr.alloc (.cells #[.slice pu KU cu,.slice pv nv cv,.slice pw nw cw] 73)=W:=⟨_,rfl⟩
   have HXK:=aa (show gT wr.heap.size (.slice pu KU cu) (.slice pv nv cv) (.slice pw nw cw) W1 by rw[← hW1];exact ⟨by simp,by simp,by simp⟩);have HGA:=aa (show wr.grownBy W1 (some c) by rw[← hW1];exact World.grownBy_alloc _ _ _);rw[hW1] at aZ;have ed:=aa hW1;have s0:=ae aZ x0;have sy:=ae aZ ry;obtain ⟨k0,k1,k2⟩:=HXK.o;have ara:=Gu.lt;clear hpx1 hpx2 hpy1 hpy2;clear hu hy Uw hdy Y1 Vn XW hak Vf e1 e2 e3 e4 Rg huk hKU hW1 Rl Vo;go_upto_region 10 with fail;rw[ed.o];clear r1 r2 r3 ry x0 x1 x2;rcases Nat.eq_zero_or_pos KU with hz0|hz0
   ·have HS:=aa (show iw (.mk ks vs kids) depth s=none by rw[HF.o,Vm.o,Gv (Or.inl (by rw[HKU.o];exact hz0))])
    have hzb:((KU:Int)==0)=true:=by rw[hz0];rfl
    clear hz0;go_quiet (fail);go_wp2_with fail;go_ret;exact ⟨aO (by rw[HS.o];rfl),by rw[HS.o];exact gY.no ((vV.trans HGA).trans (xK _ _ _))⟩
   have hzb:((KU:Int)==0)=false:=by rw[beq_eq_false_iff_ne];omega
   have arb:(0:Int)<(KU:Int):=(by omega);obtain ⟨h,hh⟩:=fy (l:=u.keys) (k:=0) (by rw[HKU.o];exact hz0);obtain ⟨_,gh,oh,rfl,Q3⟩:=HUK.o 0 h hh;simp only[Nat.add_zero] at Q3;have sh:=ae aZ (masked Q3).2;have XY:=(masked Q3).1;simp only at XY;have HHH:=aa (show u.keys.head?=some h by rw[List.head?_eq_getElem?];exact hh);clear hh Q3;by_cases Gj:h=y
   case neg=>
    have Q4:(h != y)=true:=by rw[bne_iff_ne];exact Gj
    have HS:=aa (show iw (.mk ks vs kids) depth s=none by rw[HF.o,Vm.o,Gv (Or.inr (by rw[HHH.o];intro e;injection e with e;exact Gj e))]);clear Gj;go_quiet (fail);go_wp2_with fail;go_ret;exact ⟨aO (by rw[HS.o];rfl),by rw[HS.o];exact gY.no ((vV.trans HGA).trans (xK _ _ _))⟩
   have Q4:(h != y)=false:=by rw[Gj];simp
   have HHY:=aa (show u.keys.head?=some y by rw[HHH.o,Gj]);have EC:=aa (show u.keys.length≠0 by rw[HKU.o];omega);clear Gj;have hwd:IntKind.i64.wrap (depth+1)=depth+1:=IntWalk.i64_in _ (by omega);have HGD:=aa (show wr.grownBy W1.drew (some c) from HGA.trans (zP _ _));have yR:=aa (tE HNU HGD);have HCD:=aa (show gO W1.drew c st from (Gu.grown (show wr.grownBy W1.drew none from by rw[← ed.o];exact (World.grownBy_alloc wr _ none).trans (zP _ none)) (by simp)));obtain ⟨Z,hZ⟩:=aG (iw u (depth+1) st);have HZ:=aa hZ;obtain ⟨b,hb⟩:=aG Z.isSome;have jr:=aa hb;have adh:w.heap.size≠c:=fun e=>Rf e.symm;have ajp:(0:Int)≤(k:Int):=by omega
   have Y2:wr.heap.size≠c:=(by omega);clear hZ hb;go_region_held3 (fun w'=>w'.cell? ⟨wr.heap.size,0,none⟩=some (.slice (some ⟨gh,oh,none⟩) KU cu)∧w'.cell? ⟨wr.heap.size,1,none⟩=some (.slice pv nv cv)∧w'.cell? ⟨wr.heap.size,2,none⟩=some (.slice pw nw cw)∧w'.cell? ⟨w.heap.size,0,none⟩=some (.slice (some ⟨ga,oa,none⟩) K ca)∧w'.cell? ⟨gh,oh,none⟩=some (.int .i64 h)∧w'.cell? ⟨ga,oa+k,none⟩=some (.int .i64 y))
    (first|exact ⟨k0,k1,k2,s0,sh,sy⟩|exact gG.o)
    (((with_reducible refine (zD.o u HM.o _ _ _ c st (depth+1) _ yR.o HCD.o (by omega) (by omega)).mono ?_);rintro e w1 ⟨rfl,hp⟩;rw[HZ.o] at hp ⊢;rw[jr.o];have HP:=aa hp;have gG:=aa (show _∧_∧_∧_∧_∧_ from ⟨hp.2.cell (show W1.drew.cell? _=_ from k0) (fun e=>Y2 (by injection e)),hp.2.cell (show W1.drew.cell? _=_ from k1) (fun e=>Y2 (by injection e)),hp.2.cell (show W1.drew.cell? _=_ from k2) (fun e=>Y2 (by injection e)),hp.2.cell (show W1.drew.cell? _=_ from s0) (fun e=>adh (by injection e)),hp.2.cell (show W1.drew.cell? _=_ from sh) (fun e=>XY (by injection e)),hp.2.cell (show W1.drew.cell? _=_ from sy) (fun e=>XX (by injection e))⟩);clear hp))
   clear k0 k1 k2 s0 sh sy;cases b with
   |false=>have HZN:=aa (show Z=none by have:=jr.o;cases Z with|none=>rfl|some z=>exact absurd this (by simp));have HS:=aa (show iw (.mk ks vs kids) depth s=none by rw[HF.o,Vm.o,Kg (by rw[HZ.o];exact HZN)]);go_wp2_with fail;go_ret;exact ⟨aO (by rw[HS.o];rfl),by rw[HS.o];exact gY.no ((vV.trans HGD).trans HP.2)⟩
   |true=>
    obtain ⟨XV,hst⟩:∃XV,Z=some XV:=Option.isSome_iff_exists.1 jr.o;have HST:=aa hst;clear hst;have HS:=aa (show jC kids ks depth s=jC (kids.drop (k+1)) (ks.drop (k+1)) depth XV by rw[Vm.o,Rh EC.o HHY.o (by rw[HZ.o];exact HST)]);have Vp:=aa (HGD.trans HP.2);go_wp2_with fail;go_roundw
    case rel=>exact ⟨k+1,XV,by omega,by go_num,HS.o,HP.o.1 XV HST.o,Nw HX.o Vp.o adh,tE B6.o Vp.o,vV.o.trans Vp.o⟩
    case measure=>simp[intOf];omega
theorem ED (t:ag) (x y z:Value) (w:World) (hn:bw w t x y z):Calls Tryz.prog 186 #[.agg #[x,y,z]] w fun e w'=>e=.returned (.bool (jT t))∧Bw w w':=by
 obtain ⟨pu,nu,cu,pv,nv,cv,pw,nw,cw,rfl,rfl,rfl⟩:=bc hn;have HN:=aa hn;clear hn;have kI:=aa (show Bw w (w.alloc (.cells #[.slice pu nu cu,.slice pv nv cv,.slice pw nw cw] 73)) from aq);go_enter Tryz.func186,Tryz.ntmps186;go_wp2_with fail;obtain ⟨WA,kS⟩:∃W,w.alloc (.cells #[.slice pu nu cu,.slice pv nv cv,.slice pw nw cw] 73)=W:=⟨_,rfl⟩
 have hsz:WA.heap.size=w.heap.size+1:=by rw[← kS];simp
 rw[kS] at kI ⊢;rw[← hsz];have HN1:=aa (show bw (mask (Ke WA.heap.size) (WA.alloc (.cells #[.int .i64 0,.bool false,.int .i64 0] 264))) t _ _ _ from HN.keep (fun a v hv=>ar.2 ⟨by have:=World.block_lt_of_cell? _ _ hv;show a.block≠_;omega,ae (aq) (ae kI hv)⟩));have tB:=aa (show gO (WA.alloc (.cells #[.int .i64 0,.bool false,.int .i64 0] 264)) WA.heap.size (0,(false,0)) from World.alloc_heap_new _ _);refine (Ri t _ _ _ WA.heap.size (0,(false,0)) 1 _ HN1 tB (by omega) (by omega)).mono ?_;rintro e w1 ⟨rfl,hp⟩;rw[Nt];have aZ:=aa (show Bw w w1 from (kI.alloc kI.size _).trans ((Gt hp.2 (by simp)).mono (by omega)));clear hp kS hsz;go_wp2_with fail;go_ret;exact ⟨rfl,aZ⟩
def sH:List Int→Int→Option Nat
 |[],_=>none
 |x::l,v=>if v=x then some 0 else (sH l v).map (· + 1)
theorem vW:∀ {l:List Int} {v:Int} {i:Nat},sH l v=some i→l[i]?=some v
 |[],v,i,h=>by simp[sH] at h
 |x::l,v,i,h=>by
  simp only[sH] at h
  split at h
  ·rename_i e;cases h;rw[e];rfl
  ·cases hq:sH l v with
   |none=>rw[hq] at h;cases h
   |some j=>rw[hq] at h;cases h;rw[List.getElem?_cons_succ];exact vW hq
theorem CQ:∀ {l:List Int} {v:Int},sH l v=none→v∉l
 |[],v,_=>by simp
 |x::l,v,h=>by
  simp only[sH] at h
  split at h
  ·cases h
  ·rename_i e
   cases hq:sH l v with
   |none=>have:=CQ hq;simp[e,this]
   |some j=>rw[hq] at h;cases h
theorem Nx {l:List Int} {v:Int} {k:Nat} (h:∀(j:Nat),j<k→l[j]?≠some v) (hk:l[k]?=some v):sH l v=some k:=by
 induction l generalizing k with
 |nil=>simp at hk
 |cons x l ih=>
  simp only[sH];cases k with
  |zero=>simp only[List.getElem?_cons_zero,Option.some.injEq] at hk;rw[if_pos hk.symm]
  |succ k=>rw[List.getElem?_cons_succ] at hk;rw[if_neg (fun e=>h 0 (by omega) (by rw[e];rfl)),ih (fun j hj=>by have:=h (j+1) (by omega);rwa [List.getElem?_cons_succ] at this) hk];rfl
theorem Rm {l:List Int} {v:Int} (h:∀(j:Nat),j<l.length→l[j]?≠some v):sH l v=none:=by
 cases hq:sH l v with
 |none=>rfl
 |some i=>have:=vW hq;exact absurd this (h i (List.getElem?_eq_some_iff.1 this).1)
def Y3 (o:Option Nat):Int:=match o with|some i=>i|none => -1
theorem Ny (l:List Int) (v:Int) (s:Value) (w:World) (hs:fD w s l):Calls Tryz.prog 214 #[s,.int .i64 v] w fun e w'=>e=.returned (.int .i64 (Y3 (sH l v)))∧w=w':=by
 obtain ⟨p,c,rfl,h1,h2,h3⟩:=hs;have HA:=aa h3;obtain ⟨N,hN⟩:=aG l.length;rw[hN] at h1 ⊢;have hlc:=fK (n:=N) h2;have HN:=aa hN;clear h1 h2 h3 hN;go_enter Tryz.func214,Tryz.ntmps214;go_wp2_with fail;go_loop [8,5] (fun i _=>∃k:Nat,k≤N∧i=.int .i64 k∧∀(j:Nat),j<k→l[j]?≠some v) (fun i _=>N-(intOf i).toNat)
 case atStart=>exact ⟨0,dQ,rfl,fun j hj=>by omega⟩
 case round=>
  obtain ⟨k,hk,rfl,hall⟩:=hrel;have ez:=aa hall;clear hall;by_cases hlt:k<N
  case neg=>
   obtain rfl:k=N:=by omega
   have HF:=aa (show sH l v=none from Rm (fun j hj=>ez j (by rw[← HN.o];exact hj)));go_wp2_with fail;go_ret;exact ⟨kP (by rw[HF.o];rfl),rfl⟩
  have fO:(k:Int)<(N:Int):=by omega
  obtain ⟨x,hx⟩:=fy (l:=l) (k:=k) (by rw[HN.o];omega);obtain ⟨_,g,o,rfl,x1⟩:=HA.o k x hx;have HX:=aa hx;clear hx;by_cases he:v=x
  ·have hb:(v==x)=true:=by simpa using he
   have HF:=aa (show sH l v=some k from Nx ez (by rw[HX.o,he]));clear he;go_wp2_with fail;go_ret;exact ⟨kP (by rw[HF.o];rfl),rfl⟩
  ·have hb:(v==x)=false:=by simpa using he
   have HE:=aa he;clear he;go_wp2_with fail;go_round
   case rel=>
    refine ⟨k+1,by omega,by go_num,fun j hj=>?_⟩;by_cases e:j=k
    ·subst e;rw[HX.o];intro e;injection e with e;exact HE e.symm
    ·exact ez j (by omega)
   case measure=>simp[intOf];omega
def lB:Int:=9223372036854775807
def Mq (t u:ag):Prop:=bG u 0=true∧∃pre,dW t=pre++dW u∧(pre=[]∨(dW u≠[]∧bG u 2=true))
theorem Kj {u:ag} (h:bG u 2=true):bG u 0=true:=by
 cases u with
 |mk ks vs kids=>simp only[bG,Bool.and_eq_true,decide_eq_true_eq] at h ⊢;exact ⟨⟨by omega,h.1.2⟩,h.2⟩
theorem Vq (u:ag):∀d,cH u d≠0→bG u 2=true→dW u≠[]:=by
 induction u using ag.ind with
 |h ks vs kids ih=>
  intro d hd hs;simp only[bG,Bool.and_eq_true,decide_eq_true_eq] at hs;cases kids with
  |nil=>simp only[List.length_nil,if_true,decide_eq_true_eq] at hs;unfold dW;simp only[aB,bR,List.length_nil,if_true,List.append_nil];rw[List.map_fst_zip (by omega)];intro e;rw[e] at hs;simp at hs
  |cons k0 rest=>
   obtain ⟨⟨h1,h2⟩,h3⟩:=hs;rw[if_neg (by simp)] at h3;simp only[Bool.and_eq_true] at h3;have h4:=(eV _ _).1 h3.2 0 k0 rfl;simp only[cH,lu] at hd
   split at hd
   ·exact absurd rfl hd
   ·split at hd
    ·split at hd
     ·exact absurd rfl hd
     ·rename_i hne
      have:=ih k0 (by simp) (d-1) hne h4.1;unfold dW at this ⊢;simp only[aB,bR,List.map_append];intro e;simp only[List.append_eq_nil_iff] at e;exact this e.2.1
    ·exact absurd rfl hd
theorem Rn {t u:ag} (hr:jD (aB t)=true) (hb:Gk (aB t)) (h:Mq t u):lB∈dW t↔lB∈dW u:=by
 obtain ⟨_,pre,hk,hp⟩:=h;constructor
 ·intro hm
  rw[hk,List.mem_append] at hm;rcases hm with hm|hm
  ·rcases hp with rfl|⟨hp,_⟩
   ·simp at hm
   ·exfalso
    obtain ⟨i,hi⟩:=List.mem_iff_getElem?.1 hm;have Mr:=(List.getElem?_eq_some_iff.1 hi).1;have hlen:(dW t).length=(aB t).length:=by unfold dW;rw[List.length_map]
    have hul:0<(dW u).length:=List.length_pos_iff.2 hp;have hlt:i+1<(dW t).length:=by rw[hk,List.length_append];omega
    have h1:(dW t)[i]?=some lB:=by rw[hk,List.getElem?_append_left Mr];exact hi
    obtain ⟨x,hx⟩:∃x,(aB t)[i]?=some x:=⟨_,List.getElem?_eq_getElem (by omega)⟩
    obtain ⟨y,hy⟩:∃y,(aB t)[i+1]?=some y:=⟨_,List.getElem?_eq_getElem (by omega)⟩
    have h2:=(rO _).1 hr i x y hx hy;have h3:x.1=lB:=by unfold dW at h1;rw[List.getElem?_map,hx] at h1;injection h1
    have h4:=(hb y (List.mem_of_getElem? hy)).1.2;rw[h3] at h2;unfold lB at h2;omega
  ·exact hm
 ·intro hm;rw[hk,List.mem_append];exact .inr hm
def yS (t:ag):Bool:=jT t&&decide (lB∈dW t)
def adi (t:ag) (w wr:World) (k:Nat):Prop:=
 ∃(u:ag) (a b c:Value),Mq t u∧(∃d,0≤d∧cH u d≠0)∧SizeOf.sizeOf u≤k∧gT w.heap.size a b c wr∧bw w u a b c∧Bw w wr∧(∀j,wr.frozen? ⟨w.heap.size,j,none⟩=false)
theorem Gw {ks vs:List Int} {kids:List ag} {d:Int} {u:ag} (hd:0≤d) (h:cH (.mk ks vs kids) d≠0) (hu:u∈kids):∃e,0≤e∧cH u e≠0:=by
 simp only[cH] at h
 split at h
 ·exact absurd rfl h
 ·rename_i h0
  cases kids with
  |nil=>simp at hu
  |cons t ts=>
   simp only[lu,nY] at h
   split at h
   ·rename_i hall
    split at h
    ·exact absurd rfl h
    ·rename_i hne
     refine ⟨d-1,by omega,?_⟩;rw[List.mem_cons] at hu;rcases hu with rfl|hu
     ·exact hne
     ·rw[of_decide_eq_true (List.all_eq_true.1 hall u hu)];exact hne
   ·exact absurd rfl h
theorem Nz {t:ag} {ks vs:List Int} {kids:List ag} {d:Int} {u:ag} (h:Mq t (.mk ks vs kids)) (hd:0≤d) (hdd:cH (.mk ks vs kids) d≠0) (hu:kids[kids.length-1]?=some u) (hk:kids.length≠0):Mq t u:=by
 obtain ⟨hs,pre,hp,Vi⟩:=h;simp only[bG,Bool.and_eq_true,decide_eq_true_eq] at hs;rw[if_neg hk] at hs;simp only[Bool.and_eq_true,decide_eq_true_eq] at hs;have hsu:=((eV _ _).1 hs.2.2 _ u hu).1;have hum:=List.mem_of_getElem? hu;obtain ⟨e,he,hde⟩:=Gw hd hdd hum;refine ⟨Kj hsu,pre++uE (kids.take (kids.length-1)),?_,.inr ⟨Vq u e hde hsu,hsu⟩⟩;rw[hp,List.append_assoc];congr 1;have h1:kids=kids.take (kids.length-1)++[u]:=by obtain ⟨h2,h3⟩:=List.getElem?_eq_some_iff.1 hu;have:=List.take_succ_eq_append_getElem h2;rw[h3,show kids.length-1+1=kids.length by omega,List.take_length] at this;exact this
 unfold dW uE;simp only[aB];rw[if_neg hk,List.nil_append,← List.map_append];congr 1
 conv=>lhs;rw[h1]
 rw[bZ,bZ,List.map_append,List.flatten_append];simp
theorem Ro {ks vs:List Int} {kids:List ag} {u:ag} (hu:u∈kids):SizeOf.sizeOf u<SizeOf.sizeOf (ag.mk ks vs kids):=by have:=List.sizeOf_lt_of_mem hu;simp;omega
theorem Vr {g:Nat} {x y z x' y' z':Value} {w:World} (h0:w.cell? ⟨g,0,none⟩=some x) (h1:w.cell? ⟨g,1,none⟩=some y) (h2:w.cell? ⟨g,2,none⟩=some z):gT g x' y' z' (((w.setCell ⟨g,0,none⟩ x').setCell ⟨g,1,none⟩ y').setCell ⟨g,2,none⟩ z'):=by
 refine ⟨?_,?_,?_⟩
 ·rw[World.cell?_setCell_other _ _ _ _ (by simp),World.cell?_setCell_other _ _ _ _ (by simp),World.cell?_setCell_same' _ _ _ (by rw[h0];rfl)]
 ·rw[World.cell?_setCell_other _ _ _ _ (by simp),World.cell?_setCell_same' _ _ _ (by rw[World.cell?_setCell_other _ _ _ _ (by simp),h1];rfl)]
 ·rw[World.cell?_setCell_same' _ _ _ (by rw[World.cell?_setCell_other _ _ _ _ (by simp),World.cell?_setCell_other _ _ _ _ (by simp),h2];rfl)]
def Vs (t:ag) (w:World) (e:Ending) (w':World):Prop:=∃v:Int,e=.returned (.tuple #[.int .i64 v,.bool (yS t)])∧Bw w w'
theorem Vt (t:ag) (x y z:Value) (Q:Int) (HQ:Hid (Q=lB)) (w:World) (hn:bw w t x y z):Calls Tryz.prog 187 #[.agg #[x,y,z],.int .i64 Q] w (Vs t w):=by
 obtain ⟨pu,nu,cu,pv,nv,cv,pw,nw,cw,rfl,rfl,rfl⟩:=bc hn;have HN:=aa hn;have Q9:=aa (nZ _ hn);clear hn;have kI:=aa (show Bw w (w.alloc (.cells #[.slice pu nu cu,.slice pv nv cv,.slice pw nw cw] 73)) from aq);go_enter Tryz.func187,Tryz.ntmps187;go_wp2_with fail;refine (ED t _ _ _ _ (HN.keep (af kI))).mono ?_;rintro e w1 ⟨rfl,hb⟩;have aZ:=aV kI hb;have aU:=aa (show gT w.heap.size (.slice pu nu cu) (.slice pv nv cv) (.slice pw nw cw) w1 from gT.below ⟨by simp,by simp,by simp⟩ hb);have Kk:=aa (show ∀j,w1.frozen? ⟨w.heap.size,j,none⟩=false from fun j=>(hb.frozen (p:=⟨w.heap.size,j,none⟩) (by simp)).trans (by simp));clear hb;cases hm:jT t with
 |false=>have HF:=aa (show yS t=false by unfold yS;rw[hm];rfl);clear hm;go_wp2_with fail;go_ret2;exact ⟨0,by rw[HF.o];rfl,aZ⟩
 |true=>
  have HM:=aa (show cH t 40≠0∧bG t 0=true∧jD (aB t)=true by unfold jT at hm;simpa [and_assoc] using hm);have HF:=aa (show yS t=decide (lB∈dW t) by unfold yS;rw[hm];rfl);clear hm;go_wp2_with fail;go_loopg [6] (SizeOf.sizeOf t) (fun k _ wr=>adi t w wr k)
  case atStart=>exact ⟨t,_,_,_,⟨HM.2.1,[],rfl,.inl rfl⟩,⟨40,by omega,HM.1⟩,aT,aU,HN,aZ,Kk⟩
  case round=>
   obtain ⟨u,a,b,c,hat,hdd,hsz,fN,hnu,hb,qi⟩:=hrel;have Kl:=aa hat;have NA:=aa hdd;have HNU:=aa hnu;have HB:=aa hb;have Vu:=aa qi;have mW:=aa hsz;have HX:=aa fN;clear hat hdd hb qi hsz fN;obtain ⟨ks,vs,kids⟩:=u;obtain ⟨⟨pa,ca,rfl,a1,a2,ha⟩,⟨pb,cb,rfl,b1,b2,Nn⟩,⟨pc,cc,rfl,c1,c2,hk⟩⟩:=bD.1 hnu;simp only[ag.keys,ag.vals,ag.kids] at a1 b1 c1 ha Nn hk HX;have HK:=aa hk;have HA:=aa ha;have HV:=aa Nn;obtain ⟨K,hK⟩:=aG ks.length;obtain ⟨M,hM⟩:=aG vs.length;obtain ⟨N,hN⟩:=aG kids.length;rw[hK] at a1 HX;rw[hM] at b1 HX;rw[hN] at c1 HX;have hla:=fK (n:=K) a2;have hlb:=fK (n:=M) b2;have hlc:=fK (n:=N) c2;have vN:=aa hK;have qA:=aa hM;have lz:=aa hN;have HIA:=aa (show fD wr (.slice pa K ca) ks from ⟨pa,ca,by rw[hK],by rw[hK];exact a1,a2,HA.keep (af HB)⟩);have HSD:=aa (show bG (.mk ks vs kids) 0=true from Kl.1);have XJ:=HSD.o;simp only[bG,Bool.and_eq_true,decide_eq_true_eq] at XJ;rw[hK,hM,hN] at XJ;obtain ⟨x0,x1,x2⟩:=HX.o;have hlx:=World.block_lt_of_cell? _ _ x0;simp only at hlx;clear hnu hk ha Nn a1 a2 b1 b2 c1 c2 hK hM hN;rcases Nat.eq_zero_or_pos N with hz|hz
   ·have hmv:M=K:=by
     have:=XJ.2;rw[if_pos hz] at this
     simpa using this
    have hg0:decide (0<N)=false:=decide_eq_false (by omega);have hg1:¬(0:Int)<(N:Int):=by omega
    have Km:=aa (show dW (.mk ks vs kids)=ks by
     have h0:kids=[]:=List.eq_nil_of_length_eq_zero (by rw[lz.o];exact hz);subst h0;unfold dW;simp only[aB,bR,List.length_nil,if_true,List.append_nil];exact List.map_fst_zip (by rw[vN.o,qA.o];omega))
    have HMX:=aa (show yS t=decide (lB∈ks) by
     rw[HF.o,← Km.o,decide_eq_decide];exact Rn HM.2.2 Q9 Kl)
    clear XJ;go_wp2_with fail
    with_reducible refine (Ny ks Q (.slice pa K ca) wr HIA.o).mono ?_
    rintro e w2 ⟨rfl,rfl⟩;cases hi:sH ks Q with
    |none=>have HR:=aa (show yS t=false by rw[HMX.o,decide_eq_false_iff_not,← HQ.o];exact CQ hi);clear hi;simp only[Y3];go_wp2_with fail;go_ret2;exact ⟨0,by rw[HR.o];rfl,HB⟩
    |some i=>
     have fO:=vW hi;have HR:=aa (show yS t=true by rw[HMX.o,decide_eq_true_eq,← HQ.o];exact List.mem_of_getElem? fO);have hik:=(List.getElem?_eq_some_iff.1 fO).1;rw[vN.o] at hik;have him:(i:Int)<(M:Int):=by omega
     have iP:¬(i:Int)<0:=(by omega);obtain ⟨v,hv⟩:=fy (l:=vs) (k:=i) (by rw[qA.o];omega);obtain ⟨_,gb,ob,rfl,hvc⟩:=HV.o i v hv;have rv:=ae HB hvc;clear hi fO hv hvc hik hmv;simp only[Y3];go_wp2_with fail;go_ret2;exact ⟨v,by rw[HR.o];rfl,HB⟩
   ·have hnz:¬N=0:=by omega
    have Rp:=XJ.2;rw[if_neg hnz] at Rp;simp only[Bool.and_eq_true,decide_eq_true_eq] at Rp;have hNK:N=K:=Rp.1.2.1;have hN2:2≤K:=Rp.1.2.2;have hg0:decide (0<N)=true:=decide_eq_true hz;have hg1:(0:Int)<(N:Int):=by omega
    obtain ⟨m,hm⟩:∃m,N=m+1:=⟨N-1,by omega⟩
    obtain ⟨u,hu⟩:=fy (l:=kids) (k:=m) (by rw[lz.o];omega);obtain ⟨y,hy⟩:=fy (l:=ks) (k:=m) (by rw[vN.o];omega);obtain ⟨g,o,a,b,d,rfl,e1,e2,e3,e4⟩:=HK.o m u hu;obtain ⟨pu',nu',cu',pv',nv',cv',pw',nw',cw',rfl,rfl,rfl⟩:=bc e4;obtain ⟨Ch,ga,oa,rfl,Rg⟩:=HA.o m y hy;have r1:=ae HB e1;have r2:=ae HB e2;have r3:=ae HB e3;have ry:=ae HB Rg;have Vv:=World.block_lt_of_cell? _ _ e1;simp only at Vv;have HUM:=aa (List.mem_of_getElem? hu);have Rq:=aa (Nz Kl NA.choose_spec.1 NA.choose_spec.2 (show kids[kids.length-1]?=some u by rw[lz.o,hm];exact hu) (by rw[lz.o];exact hnz));have HDK:=aa (Gw NA.choose_spec.1 NA.choose_spec.2 HUM);have ajO:=aa e4;have hw1:IntKind.i64.wrap ((N:Int)-1)=(m:Int):=by rw[IntKind.wrap_i64];omega
    have Y4:(N:Int)-1=(m:Int):=(by omega);have Vb:decide (0<m)=true:=decide_eq_true (by omega);have zi:(0:Int)<(m:Int):=by omega
    have jP:(m:Int)<(K:Int):=(by omega);have Y5:(m:Int)<(N:Int):=by omega
    have zj:=aa Y4;have sG:=aa hm;have arj:=aa hNK;have hyq:decide (Q<y)=false:=by rw[decide_eq_false_iff_not,HQ.o];have:=Ch.2;unfold lB;omega
    have Gx:=fun j=>Vu j;have f0:=Gx 0;have f1:=Gx 1;have f2:=Gx 2;clear hu hy e1 e2 e3 e4 Rg Ch XJ Rp hnz hm Gx Y4 hNK hz;go_wp2_with fail;go_loopw [6] (fun i w'=>i=.int .i64 m∧wr=w') (fun _ _=>0)
    case atStart=>exact ⟨rfl,rfl⟩
    case round=>
     obtain ⟨rfl,rfl⟩:=hrel;go_wp2_with fail;go_roundg (SizeOf.sizeOf u)
     case measure=>have h1:=Ro (ks:=ks) (vs:=vs) HUM.o;have h2:=mW.o;omega
     case rel=>refine ⟨u,_,_,_,Rq,HDK,aT,Vr x0 x1 x2,ajO,((HB.setCell aT _).setCell aT _).setCell aT _,fun j=>?_⟩;rw[World.frozen?_setCell,World.frozen?_setCell,World.frozen?_setCell];exact Vu j
mutual
def nN:ag→Nat
 |.mk _ _ kids=>1+nL kids
def nL:List ag→Nat
 |[]=>0
 |t::ts=>nN t+nL ts
end
theorem abK (t:ag):1≤nN t:=by cases t;simp only[nN];omega
theorem Qe (l:List ag) (hl:∀t∈l,∀m:Int,1≤m→fR t m=min m (nN t)):∀n most:Int,1≤n→n≤most→iW l n most=min most (n+nL l):=by
 induction l with
 |nil=>intro n most h1 h2;simp only[iW,nL];omega
 |cons a l ih=>
  intro n most h1 h2;have hp:=abK a;simp only[iW,nL]
  split
  ·rename_i h
   rw[hl a (by simp) (most-n) (by omega),ih (fun t ht=>hl t (by simp[ht])) _ _ (by omega) (by omega)];push_cast;omega
  ·push_cast;omega
theorem Qf (t:ag):∀m:Int,1≤m→fR t m=min m (nN t):=by
 induction t using ag.ind with
 |h ks vs kids ih=>intro m hm;simp only[fR,nN];rw[Qe kids ih 1 m (by omega) hm];push_cast;omega
theorem Qg (t:ag):vL t=true→(aB t).length≤30*nN t:=by
 induction t using ag.ind with
 |h ks vs kids ih=>
  intro h;simp only[vL,uB,Bool.and_eq_true,decide_eq_true_eq,List.all_eq_true] at h;have hl:∀l:List ag,(∀t∈l,(aB t).length≤30*nN t)→(bR l).length≤30*nL l:=fun l=>by
   induction l with
   |nil=>intro _;simp[nL,bR]
   |cons a l ih2=>intro hx;have h1:=hx a (by simp);have h2:=ih2 (fun t ht=>hx t (by simp[ht]));simp only[nL,bR,List.length_append];omega
  have hk:=hl kids (fun t ht=>ih t ht (by simp_all));simp only[nN,aB,List.length_append];have hz:(if kids.length=0 then ks.zip vs else []).length≤ks.length:=by
   split
   ·rw[List.length_zip];omega
   ·simp
  omega
theorem Jy {d:dy} (h:k7 d=true):dN d.map:=by unfold k7 qy at h;simp only[Bool.and_eq_true,decide_eq_true_eq] at h;obtain ⟨⟨_,h2⟩,h3⟩:=h;rw[Qf d.map 60 (by omega)] at h3;have h4:=Qg d.map h2;unfold dN;omega
theorem CD {l:List dy} (h:kJ l=true):bO l:=by unfold kJ at h;simp only[Bool.and_eq_true,List.all_eq_true] at h;exact fun d hd=>Jy (h.1 d hd)
end Go.Proofs.YtbigkioechkngaaGreat
