/- The proof, part 28. -/
import Derived.Test.YtbigkioechkngaaGreatR23
import Derived.Test.YtbigkioechkngaaGreatR26
set_option maxRecDepth 100000
set_option maxHeartbeats 8000000
namespace Go.Proofs.YtbigkioechkngaaGreat
open Go.RowKit Go.Proofs.Tryz
theorem Jf {p:cm} {n:Int} (hm:cG p=true) (hf:p.disk.ah<0) (hs:bM p.aw) (hk:p.disk.keep.length≤1000000) (h:(dC p n).2=0) :
 bM (dC p n).1.aw∧(dC p n).1.disk.keep.length≤1000000∧dC (dC p n).1 n=((dC p n).1,0)∧¬mK (dC p n).1=n:=by
 obtain ⟨hd,_⟩:=ym hm h;obtain ⟨h1,k,rfl,h2,h3,h4,f,h5⟩:=PW hm hf h;obtain ⟨m,e,_,_⟩:=LH k hm hd hf;refine ⟨fun d hd=>?_,by rw[e];exact hk,Je h1 (by rw[e];exact hd) (by omega) h4,PY h1 h4⟩;rw[h5] at hd;obtain ⟨d0,Qz,rfl⟩:=List.mem_map.1 hd;show (aA (iX f d0.map)).length≤2000;rw[mH,List.length_map];exact hs d0 Qz
theorem LL (p:cm) (v:PV) (n:Int) (hn:aQ n) (w:World) (h:br w p v):Calls prog 7 #[eY p v,.int .i64 n] w fun e w'=>e=.returned (.bool true)∧Bw w w':=by
 obtain ⟨pk,ck,pc,cc,pp,cp,pv,cv,pt,ct,rfl⟩:=h.rows;have yO:=aa (fun W (hb:Bw w W)=>E0 p _ W (h.keep (af hb)));have eJ:=aa (fun (hs:gT p=true) (W:World) (hb:Bw w W)=>oY p _ W (h.keep (af hb)) (kR hs).1);have MF:=aa (fun (hs:gT p=true) (W:World) (hb:Bw w W)=>oF p n _ W (h.keep (af hb)) (kR hs).1 (by have:=(kR hs).2.2.2.1;omega) hn);have HTW:=aa (fun (hs:gT p=true) (hm:cG p=true) (hf:p.disk.ah<0) => @Jf p n hm hf (kR hs).1 (by have:=(kR hs).2.2.2.1;omega));clear h;obtain ⟨sm,hsm⟩:∃b,gT p=b:=⟨_,rfl⟩
 obtain ⟨my,hmy⟩:∃b,cG p=b:=⟨_,rfl⟩
 obtain ⟨⟨q,re⟩,hq⟩:∃r,dC p n=r:=⟨_,rfl⟩
 rw[hsm] at yO eJ MF HTW;rw[hmy] at eJ HTW;rw[hq] at MF HTW;clear hsm hmy hq;obtain ⟨⟨kept,cache,ah,keep,dead⟩,met,gen,aF,aw,tabs⟩:=p;obtain ⟨⟨qk,qc,qf,qp,qd⟩,qm,qg,qa,qv,qt⟩:=q;unfold eY at *;unfold Tx eY at MF;simp only at yO eJ MF HTW ⊢;obtain ⟨W1,hW1⟩:=aG (w.alloc (.cells #[.slice pk kept.length ck,.slice pc cache.length cc,.int .i64 ah,.slice pp keep.length cp,.bool dead,.int .i64 met,.int .i64 gen,.int .i64 aF,.slice pv aw.length cv,.slice pt tabs.length ct] 30));obtain ⟨hx,hb⟩:=jX rfl hW1;have HX:=aa hx;have HB:=aa hb;clear hx hb;have ee:=aa hW1;clear hW1;go_enter func7,ntmps7;go_upto_region 1 with fail;rw[ee.o];clear ee;obtain ⟨a0,a1,a2,a3,a4,a5,a6,a7,a8,a9⟩:=HX.ten;have um:sm=false∨sm=true∧(my=false∨my=true∧(dead=true∨dead=false∧(decide (0≤ah)=true∨decide (0≤ah)=false∧((re != 0)=true∨re=0)))):=by cases sm <;> cases my <;> cases dead <;> simp <;> omega
 rcases um with rfl|⟨rfl,rfl|⟨rfl,rfl|⟨rfl,d0|⟨d0,d1|rfl⟩⟩⟩⟩
 case inr.inr.inr.inr.inr=>
  replace eJ:=aa (eJ.o rfl);replace MF:=aa (MF.o rfl);have HT:=aa (HTW.o rfl rfl (by have:=of_decide_eq_false d0;omega) rfl);clear HTW;go_upto_region 4 with (first
   |(go_at_call 8;(with_reducible refine (yO.o _ HB.o).mono ?_);rintro e w3 ⟨rfl,hb⟩;have HB:=bh HB hb;have HX:=aa (HX.o.below hb);clear hb;obtain ⟨a0,a1,a2,a3,a4,a5,a6,a7,a8,a9⟩:=HX.o.ten)
   |(go_at_call 15;(with_reducible refine (eJ.o _ HB.o).mono ?_);rintro e w4 ⟨rfl,hb⟩;have HB:=bh HB hb;have HX:=aa (HX.o.below hb);clear hb;obtain ⟨a0,a1,a2,a3,a4,a5,a6,a7,a8,a9⟩:=HX.o.ten)
   |(go_at_call 9;(with_reducible refine (DD _).mono ?_);rintro e w2 ⟨rfl,hb⟩;have HB:=bh HB hb;have HX:=aa (HX.o.below hb);clear hb;obtain ⟨a0,a1,a2,a3,a4,a5,a6,a7,a8,a9⟩:=HX.o.ten)
   |(go_at_call 10;(with_reducible refine (MF.o _ HB.o).mono ?_);rintro e w5 ⟨v5,rfl,hp,hb⟩;obtain ⟨qk0,qk1,qc0,qc1,qp0,qp1,qv0,qv1,qt0,qt1,rfl⟩:=hp.rows;have HP:=aa hp;have HB:=bh HB hb;clear hb hp;simp only))
  clear a0 a1 a2 a3 a4 a5 a6 a7 a8 a9 HX;obtain ⟨W6,rN⟩:=aG (w5.alloc (.cells #[.slice qk0 qk.length qk1,.slice qc0 qc.length qc1,.int .i64 qf,.slice qp0 qp.length qp1,.bool qd,.int .i64 qm,.int .i64 qg,.int .i64 qa,.slice qv0 qv.length qv1,.slice qt0 qt.length qt1] 30));obtain ⟨hx,hb⟩:=jX rfl rN;have HX:=aa hx;clear hx;have HB:=bh HB hb;have HP:=aa (HP.keep (af hb));rw[rN];clear rN hb;have pB:=aa (oF _ n _ W6 HP HT.1 HT.2.1 hn);rw[HT.o.2.2.1] at pB;unfold Tx eY at pB;simp only at pB;have gq:=aa (fun (v:PV) (W:World) (h:br W ⟨⟨qk,qc,qf,qp,qd⟩,qm,qg,qa,qv,qt⟩ v) (hb:Bw W6 W)=>ye _ _ v _ W h (HP.keep (af hb)) HT.1 HT.1);rw[Ch] at gq;have Uh:=aa (fun (W:World) (hb:Bw W6 W)=>tV _ _ W (HP.keep (af hb)) HT.1);obtain ⟨wo,Qo⟩:∃x,mK ⟨⟨qk,qc,qf,qp,qd⟩,qm,qg,qa,qv,qt⟩=x:=⟨_,rfl⟩
  rw[Qo] at Uh HT;have hne:(wo != n)=true:=by have:=HT.2.2.2;simpa using this
  unfold eY at gq Uh;simp only at gq Uh;clear Qo d0;obtain ⟨a0,a1,a2,a3,a4,a5,a6,a7,a8,a9⟩:=HX.ten;go_upto_region 7 with (go_at_call 10;(refine pB.o.mono ?_);rintro e w7 ⟨v7,rfl,hp,hb⟩;obtain ⟨rk0,rk1,rc0,rc1,rp0,rp1,rv0,rv1,rt0,rt1,rfl⟩:=hp.rows;have HR:=aa hp;have fw:=aa hb;have HX:=aa (HX.o.below hb);clear hb hp;simp only;obtain ⟨a0,a1,a2,a3,a4,a5,a6,a7,a8,a9⟩:=HX.o.ten);obtain ⟨W8,lK⟩:=aG (w7.alloc (.cells #[.slice rk0 qk.length rk1,.slice rc0 qc.length rc1,.int .i64 qf,.slice rp0 qp.length rp1,.bool qd,.int .i64 qm,.int .i64 qg,.int .i64 qa,.slice rv0 qv.length rv1,.slice rt0 qt.length rt1] 30));obtain ⟨hx,hb⟩:=jX rfl lK;have HY:=aa hx;clear hx;have gI:=bh fw hb;have HX:=aa (HX.below hb);have lZ:=aa (gq.o _ W8 (HR.keep (af hb)) gI);rw[lK];clear lK hb a0 a1 a2 a3 a4 a5 a6 a7 a8 a9 gq;simp only at lZ;obtain ⟨a0,a1,a2,a3,a4,a5,a6,a7,a8,a9⟩:=HX.ten;obtain ⟨b0,b1,b2,b3,b4,b5,b6,b7,b8,b9⟩:=HY.ten;go_wp2_with (first
   |(go_at_call 12;(with_reducible refine lZ.o.mono ?_);rintro e w9 ⟨rfl,hb⟩;have ke:=bh gI hb;have HX:=aa (HX.o.below hb);clear hb;obtain ⟨a0,a1,a2,a3,a4,a5,a6,a7,a8,a9⟩:=HX.o.ten)
   |(go_at_call 13;(with_reducible refine (Uh.o _ ke.o).mono ?_);rintro e wz ⟨rfl,hb⟩;have HBz:=aa (ak HB.o (ak ke.o hb));clear hb))
  go_ret;exact ⟨rfl,HBz⟩
 all_goals
  try replace eJ:=aa (eJ.o rfl)
  try replace MF:=aa (MF.o rfl)
  go_wp2_with (first
   |(go_at_call 8;(with_reducible refine (yO.o _ HB.o).mono ?_);rintro e w3 ⟨rfl,hb⟩;have HB:=bh HB hb;have HX:=aa (HX.o.below hb);clear hb;obtain ⟨a0,a1,a2,a3,a4,a5,a6,a7,a8,a9⟩:=HX.o.ten)
   |(go_at_call 15;(with_reducible refine (eJ.o _ HB.o).mono ?_);rintro e w4 ⟨rfl,hb⟩;have HB:=bh HB hb;have HX:=aa (HX.o.below hb);clear hb;obtain ⟨a0,a1,a2,a3,a4,a5,a6,a7,a8,a9⟩:=HX.o.ten)
   |(go_at_call 9;(with_reducible refine (DD _).mono ?_);rintro e w2 ⟨rfl,hb⟩;have HB:=bh HB hb;have HX:=aa (HX.o.below hb);clear hb;obtain ⟨a0,a1,a2,a3,a4,a5,a6,a7,a8,a9⟩:=HX.o.ten)
   |(go_at_call 10;(with_reducible refine (MF.o _ HB.o).mono ?_);rintro e w5 ⟨v5,rfl,hp,hb⟩;obtain ⟨qk0,qk1,qc0,qc1,qp0,qp1,qv0,qv1,qt0,qt1,rfl⟩:=hp.rows;have HB:=bh HB hb;clear hb hp;simp only))
  go_ret
  first|exact ⟨rfl,HB⟩|exact ⟨rfl,HB.alloc HB.size _⟩
end Go.Proofs.YtbigkioechkngaaGreat
