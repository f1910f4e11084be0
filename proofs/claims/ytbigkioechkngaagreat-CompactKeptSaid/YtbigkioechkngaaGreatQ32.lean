/- The proof, part 33. -/
import Derived.Test.YtbigkioechkngaaGreatQ31
set_option maxRecDepth 100000
set_option maxHeartbeats 8000000
namespace Go.Proofs.YtbigkioechkngaaGreat
open Go.RowKit
theorem Qh (p:bX) (v:PV) (n:Int) (hn:aP n) (w:World) (h:bh w p v):Calls Tryz.prog 6 #[dZ p v,.int .i64 n] w fun e w'=>e=.returned (.bool true)∧Bw w w':=by
 obtain ⟨pk,ck,pc,cc,pp,cp,pv,cv,pt,ct,rfl⟩:=h.rows;have HP:=aa h;have rR:=aa (fun (W:World) (hb:Bw w W)=>pH p _ W (h.keep (af hb)));have dS:=aa (fun (hs:dF p=true) (W:World) (hb:Bw w W)=>kC p _ W (h.keep (af hb)) (dL hs).1);have rz:=aa (fun (hs:dF p=true) (W:World) (hb:Bw w W)=>kF p n _ W (h.keep (af hb)) (dL hs).1 (by have:=(dL hs).2.2.2.1;omega) hn);have HSF:=aa (fun hs:dF p=true=>(dL hs).2);have HRT:=aa h.tabs;clear h;obtain ⟨sm,hsm⟩:∃b,dF p=b:=⟨_,rfl⟩
 obtain ⟨my,Xx⟩:∃b,cA p=b:=⟨_,rfl⟩
 rw[hsm] at rR dS rz HSF;rw[Xx] at dS;have YH:=aa Xx;clear hsm Xx;obtain ⟨⟨kept,cache,ah,keep,dead⟩,met,gen,aD,av,tabs⟩:=p;unfold dZ at *;simp only at rR dS rz HSF YH HP HRT ⊢;obtain ⟨W1,hW1⟩:=aG (w.alloc (.cells #[.slice pk kept.length ck,.slice pc cache.length cc,.int .i64 ah,.slice pp keep.length cp,.bool dead,.int .i64 met,.int .i64 gen,.int .i64 aD,.slice pv av.length cv,.slice pt tabs.length ct] 30));have HX:=aa (show aJ W1 w.heap.size [.slice pk kept.length ck,.slice pc cache.length cc,.int .i64 ah,.slice pp keep.length cp,.bool dead,.int .i64 met,.int .i64 gen,.int .i64 aD,.slice pv av.length cv,.slice pt tabs.length ct] by rw[← hW1];exact aJ.new w _ _);have HB:=aa (show Bw w W1 by rw[← hW1];exact aq);have ed:=aa hW1;clear hW1;go_enter Tryz.func6,Tryz.ntmps6;go_upto_region 1 with fail;rw[ed.o];clear ed;obtain ⟨a0,a1,a2,a3,a4,a5,a6,a7,a8,a9⟩:=HX.ten;have oq:sm=false∨sm=true∧(my=false∨my=true∧(dead=true∨dead=false∧(decide (0≤ah)=true∨decide (0≤ah)=false))):=by cases sm <;> cases my <;> cases dead <;> simp <;> omega
 rcases oq with rfl|⟨rfl,rfl|⟨rfl,rfl|⟨rfl,d0|d0⟩⟩⟩
 case inr.inr.inr.inr=>
  replace dS:=aa (dS.o rfl);replace rz:=aa (rz.o rfl);obtain ⟨Lp,Lr,Q0,UN,Dh,qU⟩:=HSF.o rfl;have HFU:=aa (show ah<0 by have:=of_decide_eq_false d0;omega);have UN:=aa UN;clear HSF Lp Lr Q0 Dh qU;have vV:=aa (BN n (p:=⟨⟨kept,cache,ah,keep,false⟩,met,gen,aD,av,tabs⟩) YH rfl HFU);obtain ⟨⟨⟨qd,qm,qg,qa,qv,qt⟩,re⟩,hq⟩:∃r,cX ⟨⟨kept,cache,ah,keep,false⟩,met,gen,aD,av,tabs⟩ n=r:=⟨_,rfl⟩
  rw[hq] at rz vV;obtain ⟨m,e1,e2,VT⟩:=vV.o;simp only at e1 e2 VT;subst e1;obtain ⟨qc,e1⟩:∃l,cache++m=l:=⟨_,rfl⟩
  rw[e1] at rz VT;have e1:=e1.symm;unfold Ju dZ at rz;simp only at rz VT;have WW:=aa e1;have wC:=aa e2;have HME:=aa (bF.1 YH);have hqc:qc.length≤20000:=((fW _).1 VT).1.2.2.1;have hlp:cache.length≤qc.length:=by rw[e1,List.length_append];omega
  obtain ⟨pt',ct',e3,ha1,ha2,ha3⟩:=HRT.o;injection e3 with e3 e4 e5;subst e3;subst e5;have Kl:=aa ha3;clear e1 e2 e4 ha1 ha3 hq VT vV;go_upto_region 4 with (first
   |(go_at_call 8;(with_reducible refine (rR.o _ HB.o).mono ?_);rintro e w3 ⟨rfl,hb⟩;have HB:=aV HB hb;have HX:=aa (HX.o.below hb);clear hb;obtain ⟨a0,a1,a2,a3,a4,a5,a6,a7,a8,a9⟩:=HX.o.ten)
   |(go_at_call 15;(with_reducible refine (dS.o _ HB.o).mono ?_);rintro e w4 ⟨rfl,hb⟩;have HB:=aV HB hb;have HX:=aa (HX.o.below hb);clear hb;obtain ⟨a0,a1,a2,a3,a4,a5,a6,a7,a8,a9⟩:=HX.o.ten)
   |(go_at_call 9;(with_reducible refine (lY _).mono ?_);rintro e w2 ⟨rfl,hb⟩;have HB:=aV HB hb;have HX:=aa (HX.o.below hb);clear hb;obtain ⟨a0,a1,a2,a3,a4,a5,a6,a7,a8,a9⟩:=HX.o.ten)
   |(go_at_call 10;(with_reducible refine (rz.o _ HB.o).mono ?_);rintro e w5 ⟨v5,rfl,Cc,hb⟩;obtain ⟨Xy,Xz,XA,U8,XB,XC,XD,XE,XF,XG,rfl⟩:=Cc.rows;have HP5:=aa Cc;have HB:=aV HB hb;have HX:=aa (HX.o.below hb);clear hb Cc;simp only;obtain ⟨a0,a1,a2,a3,a4,a5,a6,a7,a8,a9⟩:=HX.o.ten))
  obtain ⟨W6,oQ⟩:=aG (w5.alloc (.cells #[.slice Xy kept.length Xz,.slice XA qc.length U8,.int .i64 ah,.slice XB keep.length XC,.bool false,.int .i64 qm,.int .i64 qg,.int .i64 qa,.slice XD qv.length XE,.slice XF qt.length XG] 30));have SA:=aa (show aJ W6 w5.heap.size [.slice Xy kept.length Xz,.slice XA qc.length U8,.int .i64 ah,.slice XB keep.length XC,.bool false,.int .i64 qm,.int .i64 qg,.int .i64 qa,.slice XD qv.length XE,.slice XF qt.length XG] by rw[← oQ];exact aJ.new w5 [.slice Xy kept.length Xz,.slice XA qc.length U8,.int .i64 ah,.slice XB keep.length XC,.bool false,.int .i64 qm,.int .i64 qg,.int .i64 qa,.slice XD qv.length XE,.slice XF qt.length XG] 30);have hb:Bw w5 W6:=by rw[← oQ];exact aq
  have cQ:=aV HB hb;have kB:=aa (HX.below hb);have WE:=aa (HP5.keep (af hb));rw[oQ];clear oQ hb a0 a1 a2 a3 a4 a5 a6 a7 a8 a9;obtain ⟨a0,a1,a2,a3,a4,a5,a6,a7,a8,a9⟩:=kB.ten;have vI:=aa (fun (W:World)=>yj ⟨⟨kept,cache,ah,keep,false⟩,met,gen,aD,av,tabs⟩ _ aA.zero W HP.sl (by have:=HME.2.2.1;show 0≤met∧met≤1000;omega) (by show (0:Int)≤0∧(0:Int)≤1000;omega) (by show (0:Int)≤0∧(0:Int)≤16;omega));obtain ⟨S,hS⟩:∃z,eC ⟨⟨kept,cache,ah,keep,false⟩,met,gen,aD,av,tabs⟩ aA.zero=z:=⟨_,rfl⟩
  rw[hS] at vI;have HS:=aa (show S=2+2*met by rw[← hS];show 2+2*met+16*0+0=_;omega);unfold dZ aA.agg aA.zero at vI;simp only at vI;clear hS;have HBC:=aa HP5.disk.bd.cache;go_wp2_with fail;go_loopw [7] (fun i wr=>∃k:Nat,cache.length≤k∧k≤qc.length∧i=.int .i64 k∧Bw W6 wr) (fun i _=>qc.length-(intOf i).toNat)
  case atStart=>exact ⟨cache.length,aT,hlp,rfl,aH⟩
  case round=>
   obtain ⟨k,Es,hk2,rfl,hb⟩:=hrel;have HB:=aa hb;have HX:=aa (kB.below hb);have HQ:=aa (SA.below hb);clear hb a0 a1 a2 a3 a4 a5 a6 a7 a8 a9;obtain ⟨a0,a1,a2,a3,a4,a5,a6,a7,a8,a9⟩:=HX.ten;obtain ⟨b0,b1,b2,b3,b4,b5,b6,b7,b8,b9⟩:=HQ.ten;by_cases hlt:k<qc.length
   case neg=>
    obtain rfl:k=qc.length:=by omega
    have ND:(cache.length:Int)≤(qc.length:Int):=(by omega);go_wp2_with fail;go_ret;exact ⟨rfl,ak cQ HB⟩
   case pos=>
    have fO:(k:Int)<(qc.length:Int):=(by omega);obtain ⟨⟨E,tx⟩,hs⟩:∃e,qc[k]?=some e:=⟨_,List.getElem?_eq_getElem hlt⟩
    have hme:(E,tx)∈m:=by rw[WW.o,List.getElem?_append_right Es] at hs;exact List.mem_of_getElem? hs
    obtain ⟨g,o,hpc,hcell⟩:=WE.disk.cache.cells k _ hs;have hEb:aP E:=(HBC.o (E,tx) (List.mem_of_getElem? hs)).1;subst hpc;have x1:W6.cell? ⟨g,o+k*2,none⟩=some (.int .i64 E):=hcell 0 (.int .i64 E) rfl;have x2:=ae HB x1;obtain ⟨i,u,h1,h2,h3,h4⟩:=wC.o (E,tx) hme;simp only at h1 h2 h3 h4;rw[← HS.o] at h1 h2 h4;obtain ⟨A,hA⟩:=aG (E-S);rw[hA] at h1 h2 h4;have hwr:IntKind.i64.wrap (E-S)=A:=by rw[hA,IntKind.wrap_i64];have:=HS.o;have:=HME.2.2.1;unfold aP at hEb;omega
    obtain ⟨g2,o2,uv,e9,hc2,hu⟩:=Kl.o i u h3;subst e9;obtain ⟨pu,cu,rfl,c1,c2,hua⟩:=hu;have x3:=ae (ak cQ HB) hc2;have HUA:=aa hua;have Mr:=(List.getElem?_eq_some_iff.1 h3).1;have yg:=aa (show dD u=true by
     have h:=HME.2.1;unfold cF at h;simp only[Bool.and_eq_true,List.all_eq_true] at h;exact h.1 u (List.mem_of_getElem? h3))
    have H4:=aa h4;have H1:=aa h1;have H2:=aa h2;have HA:=aa hA;have HIL:=aa Mr;clear hs hme hcell x1 h1 h2 h3 h4 hA hc2 hua hEb Mr;have HC8:=aa x3;clear x3;go_upto_region 7 with fail;have fL:=aa HB.drew;have RS:=aa (ae aH.drew HC8);have Qi:=aa (show _∧_∧_∧_∧_∧_∧_∧_∧_∧_∧_∧_ from ⟨ae aH.drew b1,ae aH.drew x2,ae aH.drew a0,ae aH.drew a1,ae aH.drew a2,ae aH.drew a3,ae aH.drew a4,ae aH.drew a5,ae aH.drew a6,ae aH.drew a7,ae aH.drew a8,ae aH.drew a9⟩);go_region_held3 (fun w'=>w'.cell? ⟨w5.heap.size,1,none⟩=some (.slice (some ⟨g,o,none⟩) qc.length U8)∧w'.cell? ⟨g,o+k*2,none⟩=some (.int .i64 E)∧w'.cell? ⟨w.heap.size,0,none⟩=some (.slice pk kept.length ck)∧w'.cell? ⟨w.heap.size,1,none⟩=some (.slice pc cache.length cc)∧w'.cell? ⟨w.heap.size,2,none⟩=some (.int .i64 ah)∧w'.cell? ⟨w.heap.size,3,none⟩=some (.slice pp keep.length cp)∧w'.cell? ⟨w.heap.size,4,none⟩=some (.bool false)∧w'.cell? ⟨w.heap.size,5,none⟩=some (.int .i64 met)∧w'.cell? ⟨w.heap.size,6,none⟩=some (.int .i64 gen)∧w'.cell? ⟨w.heap.size,7,none⟩=some (.int .i64 aD)∧w'.cell? ⟨w.heap.size,8,none⟩=some (.slice pv av.length cv)∧w'.cell? ⟨w.heap.size,9,none⟩=some (.slice (some ⟨g2,o2,none⟩) tabs.length ct))
     (first|exact Qi.o|exact S9.o)
     (first|((with_reducible refine (vI.o _).mono ?_);rintro e w7 ⟨rfl,hb⟩;have fg:=aV fL hb;have HC7:=aa (ae hb RS.o);have S9:=aa (show _∧_∧_∧_∧_∧_∧_∧_∧_∧_∧_∧_ from ⟨ae hb Qi.o.1,ae hb Qi.o.2.1,ae hb Qi.o.2.2.1,ae hb Qi.o.2.2.2.1,ae hb Qi.o.2.2.2.2.1,ae hb Qi.o.2.2.2.2.2.1,ae hb Qi.o.2.2.2.2.2.2.1,ae hb Qi.o.2.2.2.2.2.2.2.1,ae hb Qi.o.2.2.2.2.2.2.2.2.1,ae hb Qi.o.2.2.2.2.2.2.2.2.2.1,ae hb Qi.o.2.2.2.2.2.2.2.2.2.2.1,ae hb Qi.o.2.2.2.2.2.2.2.2.2.2.2⟩);clear hb))
    obtain ⟨p1,p2,a0,a1,a2,a3,a4,a5,a6,a7,a8,a9⟩:=S9.o;have hc:=HC7.o;obtain ⟨R,hR⟩:=aG (A%16);have H4:=aa (show ∀x∈u,¬(x.1≤R∧R<x.1+x.2.1) by rw[← hR];exact H4);have HR:=aa (show 0≤R∧R≤15 by omega);have U9:decide (A<0)=false:=decide_eq_false (by have:=H1.o;omega);have hqd:Int.tdiv A 16=(i:Int):=by have h1:=H1.o;have h2:=H2.o;rw[Int.tdiv_eq_ediv_of_nonneg h1];exact h2
    have hrm:Int.tmod A 16=R:=by rw[Int.tmod_eq_emod_of_nonneg H1.o];exact hR
    have Mr:(i:Int)<(tabs.length:Int):=by have:=HIL.o;omega
    have hi8:¬tabs.length≤i:=by have:=HIL.o;omega
    have hid:decide ((tabs.length:Int)≤(i:Int))=false:=decide_eq_false (by omega);have hi9:(i:Int)≤9223372036854775807:=by have:=UN.o;have:=HIL.o;omega
    have hul:u.length≤16:=fY yg.o;clear hR b0 b1 b2 b3 b4 b5 b6 b7 b8 b9;go_wp2_with fail;have V9:=aa (fun (j:Nat) (x:aj) (hx:u[j]?=some x)=>HUA j x hx);have mX:=aa (ak cQ fg);obtain ⟨M,hM⟩:=aG u.length;have HM:=aa hM;rw[hM] at hul ⊢;clear U9 hqd Mr hi8 hid hi9 hM hwr p1 p2 a0 a1 a2 a3 a4 a5 a6 a7 a8 a9 hc;go_loopw [10] (fun i ws=>∃j:Nat,j≤M∧i=.int .i64 j∧Bw w7 ws) (fun i _=>M-(intOf i).toNat)
    case atStart=>exact ⟨0,dQ,rfl,aH⟩
    case round=>
     obtain ⟨j,hj,rfl,UD⟩:=hrel;have ux:=aa UD;clear UD;by_cases Ur:j<M
     case neg=>
      obtain rfl:j=M:=by omega
      go_wp2_with fail;go_roundw
      case rel=>exact ⟨k+1,by omega,by omega,by go_num,ak fg.o ux.o⟩
      case measure=>simp[intOf];omega
     have FI:(j:Int)<(M:Int):=(by omega);obtain ⟨⟨x,y,z,d⟩,hs⟩:∃s,u[j]?=some s:=⟨_,List.getElem?_eq_getElem (by rw[HM.o];omega)⟩
     obtain ⟨g3,o3,e9,x1⟩:=V9.o j _ hs;subst e9;have hok:=bW.1 (gV yg (List.mem_of_getElem? hs));have hno:=H4.o _ (List.mem_of_getElem? hs);simp only at hok hno;obtain ⟨q1,q2,q3,q4,_⟩:=hok;have hw:wrap64 (x+y)=x+y:=dK (by omega) (by omega);obtain ⟨r0,r1,r2,r3⟩:=x1.keep (af (ak mX ux));simp only at r0 r1 r2 r3;clear hs x1;by_cases hx:x≤R
     ·have d1:decide (x≤R)=true:=decide_eq_true hx
      have d2:decide (R<x+y)=false:=decide_eq_false (fun h=>hno ⟨hx,h⟩);clear hno;go_wp2_with fail;go_quiet (fail);go_wp2_with fail;go_roundw
      case rel=>exact ⟨j+1,by omega,by go_num,ay ux.o _⟩
      case measure=>simp[intOf];omega
     ·have d1:decide (x≤R)=false:=decide_eq_false hx
      clear hno;go_wp2_with fail;go_quiet (fail);go_wp2_with fail;go_roundw
      case rel=>exact ⟨j+1,by omega,by go_num,ay ux.o _⟩
      case measure=>simp[intOf];omega
 all_goals
  try replace dS:=aa (dS.o rfl)
  go_wp2_with (first
   |(go_at_call 8;(with_reducible refine (rR.o _ HB.o).mono ?_);rintro e w3 ⟨rfl,hb⟩;have HB:=aV HB hb;have HX:=aa (HX.o.below hb);clear hb;obtain ⟨a0,a1,a2,a3,a4,a5,a6,a7,a8,a9⟩:=HX.o.ten)
   |(go_at_call 15;(with_reducible refine (dS.o _ HB.o).mono ?_);rintro e w4 ⟨rfl,hb⟩;have HB:=aV HB hb;have HX:=aa (HX.o.below hb);clear hb;obtain ⟨a0,a1,a2,a3,a4,a5,a6,a7,a8,a9⟩:=HX.o.ten)
   |(go_at_call 9;(with_reducible refine (lY _).mono ?_);rintro e w2 ⟨rfl,hb⟩;have HB:=aV HB hb;have HX:=aa (HX.o.below hb);clear hb;obtain ⟨a0,a1,a2,a3,a4,a5,a6,a7,a8,a9⟩:=HX.o.ten))
  go_ret;exact ⟨rfl,HB⟩
end Go.Proofs.YtbigkioechkngaaGreat
