/- The proof, part 37. -/
import Derived.Test.YtbigkioechkngaaGreatQ31
import Derived.Test.YtbigkioechkngaaGreatQ35
set_option maxRecDepth 100000
set_option maxHeartbeats 8000000
namespace Go.Proofs.YtbigkioechkngaaGreat
open Go.RowKit
def yK (n:Int) (l:List (List aj)) (k:Nat):Bool:=(List.range k).any fun i=>decide (¬(i:Int)=n∧l[i]?=some [])
theorem Mk (n:Int) (l:List (List aj)) (k:Nat):yK n l (k+1)=(yK n l k || decide (¬(k:Int)=n∧l[k]?=some [])):=by unfold yK;rw[List.range_succ,List.any_append,List.any_cons,List.any_nil,Bool.or_false]
theorem Qw (p:bX) (v:PV) (n:Int) (hn:aP n) (w:World) (h:bh w p v):Calls Tryz.prog 5 #[dZ p v,.int .i64 n] w fun e w'=>e=.returned (.bool true)∧Bw w w':=by
 obtain ⟨pk,ck,pc,cc,pp,cp,pv,cv,pt,ct,rfl⟩:=h.rows;have rR:=aa (fun (W:World) (hb:Bw w W)=>pH p _ W (h.keep (af hb)));have dS:=aa (fun (hs:dF p=true) (W:World) (hb:Bw w W)=>kC p _ W (h.keep (af hb)) (dL hs).1);have rz:=aa (fun (hs:dF p=true) (W:World) (hb:Bw w W)=>kF p n _ W (h.keep (af hb)) (dL hs).1 (by have:=(dL hs).2.2.2.1;omega) hn);have AJ:=aa (fun (hs:dF p=true) (hm:cA p=true) (hd:p.disk.dead=false) (hf:p.disk.ah<0) (k:Nat) (hk:n=k) (hl:k<p.tabs.length) (hr:yK n p.tabs p.tabs.length=true)=>show (cX p n).2=0 by
  unfold yK at hr;rw[List.any_eq_true] at hr;obtain ⟨i,_,hi⟩:=hr;have hi:=of_decide_eq_true hi;subst hk;exact Mj hm hd hf (dL hs).2.2.1 hl (by omega) hi.2)
 have uy:=aa (fun hs:dF p=true=>(dL hs).2.2.2.2.1);have HRT:=aa h.tabs;clear h;obtain ⟨sm,hsm⟩:∃b,dF p=b:=⟨_,rfl⟩
 obtain ⟨my,Xx⟩:∃b,cA p=b:=⟨_,rfl⟩
 obtain ⟨⟨q,re⟩,hq⟩:∃r,cX p n=r:=⟨_,rfl⟩
 rw[hsm] at rR dS rz AJ uy;rw[Xx] at dS AJ;rw[hq] at rz AJ;clear hsm Xx hq;obtain ⟨⟨kept,cache,ah,keep,dead⟩,met,gen,aD,av,tabs⟩:=p;obtain ⟨⟨qk,qc,qf,qp,qd⟩,qm,qg,qa,qv,qt⟩:=q;unfold dZ at *;unfold Ju dZ at rz;simp only at rR dS rz AJ HRT uy ⊢;obtain ⟨W1,hW1⟩:=aG (w.alloc (.cells #[.slice pk kept.length ck,.slice pc cache.length cc,.int .i64 ah,.slice pp keep.length cp,.bool dead,.int .i64 met,.int .i64 gen,.int .i64 aD,.slice pv av.length cv,.slice pt tabs.length ct] 30));have HX:=aa (show aJ W1 w.heap.size [.slice pk kept.length ck,.slice pc cache.length cc,.int .i64 ah,.slice pp keep.length cp,.bool dead,.int .i64 met,.int .i64 gen,.int .i64 aD,.slice pv av.length cv,.slice pt tabs.length ct] by rw[← hW1];exact aJ.new w _ _);have HB:=aa (show Bw w W1 by rw[← hW1];exact aq);have ed:=aa hW1;clear hW1;go_enter Tryz.func5,Tryz.ntmps5;go_upto_region 1 with fail;rw[ed.o];clear ed;obtain ⟨a0,a1,a2,a3,a4,a5,a6,a7,a8,a9⟩:=HX.ten;have oq:sm=false∨sm=true∧(my=false∨my=true∧(dead=true∨dead=false∧(decide (0≤ah)=true∨decide (0≤ah)=false∧(decide (n<0)=true∨decide (n<0)=false∧(decide ((tabs.length:Int)≤n)=true∨decide ((tabs.length:Int)≤n)=false))))):=by cases sm <;> cases my <;> cases dead <;> simp <;> omega
 rcases oq with rfl|⟨rfl,rfl|⟨rfl,rfl|⟨rfl,d0|⟨d0,d1|⟨d1,d2|d2⟩⟩⟩⟩⟩
 case inr.inr.inr.inr.inr.inr=>
  replace dS:=aa (dS.o rfl);replace rz:=aa (rz.o rfl);have KY:=aa (show 0≤n∧n<tabs.length by have:=of_decide_eq_false d1;have:=of_decide_eq_false d2;omega);have js:=aa (AJ.o rfl rfl rfl (by have:=of_decide_eq_false d0;show ah<0;omega) n.toNat (by have:=KY.o;omega) (by have:=KY.o;show n.toNat<tabs.length;omega));replace uy:=aa (uy.o rfl);obtain ⟨pt',ct',e3,ha1,ha2,ha3⟩:=HRT.o;injection e3 with e3 e4 e5;subst e3;subst e5;have Kl:=aa ha3;clear HRT AJ e4 ha1 ha2 ha3;go_upto_region 4 with (first
   |(go_at_call 8;(with_reducible refine (rR.o _ HB.o).mono ?_);rintro e w3 ⟨rfl,hb⟩;have HB:=aV HB hb;have HX:=aa (HX.o.below hb);clear hb;obtain ⟨a0,a1,a2,a3,a4,a5,a6,a7,a8,a9⟩:=HX.o.ten)
   |(go_at_call 15;(with_reducible refine (dS.o _ HB.o).mono ?_);rintro e w4 ⟨rfl,hb⟩;have HB:=aV HB hb;have HX:=aa (HX.o.below hb);clear hb;obtain ⟨a0,a1,a2,a3,a4,a5,a6,a7,a8,a9⟩:=HX.o.ten)
   |(go_at_call 9;(with_reducible refine (lY _).mono ?_);rintro e w2 ⟨rfl,hb⟩;have HB:=aV HB hb;have HX:=aa (HX.o.below hb);clear hb;obtain ⟨a0,a1,a2,a3,a4,a5,a6,a7,a8,a9⟩:=HX.o.ten))
  clear d0 d1 d2;obtain ⟨L,hL⟩:=aG tabs.length;have HL:=aa hL;rw[hL] at HX js uy KY a9 rz ⊢;clear hL;go_wp2_with fail;go_loopw [5,6] (fun r i wr=>∃k:Nat,k≤L∧r=.bool (yK n tabs k)∧i=.int .i64 k∧Bw w4 wr) (fun _ i _=>L-(intOf i).toNat)
  case atStart=>exact ⟨0,dQ,rfl,rfl,aH⟩
  case round=>
   obtain ⟨k,hk,rfl,rfl,hb⟩:=hrel;have HB:=aV HB hb;have NP:=aa hb;have HX:=aa (HX.below hb);clear hb a0 a1 a2 a3 a4 a5 a6 a7 a8 a9;obtain ⟨a0,a1,a2,a3,a4,a5,a6,a7,a8,a9⟩:=HX.ten;by_cases hlt:k<L
   case neg=>
    obtain rfl:k=L:=by omega
    have uz:=aa (js.o);clear js;obtain ⟨b,hb⟩:=aG (yK n tabs k);rw[hb] at uz ⊢;clear hb;have hre:b=false∨b=true∧re=0:=by
     cases b
     ·exact .inl rfl
     ·exact .inr ⟨rfl,uz rfl⟩
    rcases hre with rfl|⟨rfl,rfl⟩
    all_goals
     go_wp2_with (go_at_call 10;(with_reducible refine (rz.o _ HB.o).mono ?_);rintro e w5 ⟨v5,rfl,Cc,hb⟩;obtain ⟨Xy,Xz,XA,U8,XB,XC,XD,XE,XF,XG,rfl⟩:=Cc.rows;have HB:=aV HB hb;clear hb Cc;simp only);go_ret;exact ⟨rfl,HB.alloc HB.size _⟩
   case pos=>
    have fO:(k:Int)<(L:Int):=(by omega);obtain ⟨u,hs⟩:∃e,tabs[k]?=some e:=⟨_,List.getElem?_eq_getElem (by rw[HL.o];exact hlt)⟩
    obtain ⟨g2,o2,uv,rfl,hc2,pu,cu,rfl,c1,c2,hua⟩:=Kl.o k u hs;have x3:=ae HB hc2;have fS:=aa (Mk n tabs k);rw[hs] at fS;obtain ⟨b,hb⟩:=aG (yK n tabs k);rw[hb] at fS ⊢;clear hb hs hc2 hua;have hLm:(L:Int)≤9223372036854775807:=by have:=uy.o;omega
    obtain ⟨X,hX⟩:=aG (decide (¬(k:Int)=n∧some u=some []));rw[hX] at fS;have hcs:b=true∨b=false∧(((k:Int) != n)=false∧X=false∨((k:Int) != n)=true∧(u=[]∧X=true∨((u.length:Int)==0)=false∧X=false)):=by
     rw[← hX];by_cases e:(k:Int)=n
     ·cases b <;> simp[e]
     ·cases b <;> cases u <;> simp[e] <;> omega
    clear hX;rcases hcs with rfl|⟨rfl,⟨d1,rfl⟩|⟨d1,⟨rfl,rfl⟩|⟨d3,rfl⟩⟩⟩
    all_goals
     go_wp2_with fail
     try (go_quiet (fail);go_wp2_with fail)
     go_roundw
     case rel=>exact ⟨k+1,by omega,by rw[fS.o];rfl,by go_num,by first|exact NP.o|exact ay NP.o _⟩
     case measure=>simp[intOf];omega
 all_goals
  try replace dS:=aa (dS.o rfl)
  try replace rz:=aa (rz.o rfl)
  go_wp2_with (first
   |(go_at_call 8;(with_reducible refine (rR.o _ HB.o).mono ?_);rintro e w3 ⟨rfl,hb⟩;have HB:=aV HB hb;have HX:=aa (HX.o.below hb);clear hb;obtain ⟨a0,a1,a2,a3,a4,a5,a6,a7,a8,a9⟩:=HX.o.ten)
   |(go_at_call 15;(with_reducible refine (dS.o _ HB.o).mono ?_);rintro e w4 ⟨rfl,hb⟩;have HB:=aV HB hb;have HX:=aa (HX.o.below hb);clear hb;obtain ⟨a0,a1,a2,a3,a4,a5,a6,a7,a8,a9⟩:=HX.o.ten)
   |(go_at_call 9;(with_reducible refine (lY _).mono ?_);rintro e w2 ⟨rfl,hb⟩;have HB:=aV HB hb;have HX:=aa (HX.o.below hb);clear hb;obtain ⟨a0,a1,a2,a3,a4,a5,a6,a7,a8,a9⟩:=HX.o.ten))
  go_ret;exact ⟨rfl,HB⟩
end Go.Proofs.YtbigkioechkngaaGreat
