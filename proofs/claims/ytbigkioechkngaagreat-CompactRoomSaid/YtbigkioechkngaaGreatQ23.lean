/- The proof, part 24. -/
import Derived.Test.YtbigkioechkngaaGreatQ16
import Derived.Test.YtbigkioechkngaaGreatQ17
import Derived.Test.YtbigkioechkngaaGreatQ22
set_option maxRecDepth 100000
set_option maxHeartbeats 8000000
namespace Go.Proofs.YtbigkioechkngaaGreat
open Go.RowKit
def Wu (F:Nat→Prop) (w:World) (p:bX) (e:Ending) (w':World):Prop:=∃v,e=.returned (dZ p v)∧bh (mask F w') p v∧Bw w w'
theorem yo (p:bX) (v:PV) (id size:Int) (l:List az) (vl:Value) (w:World) (F:Nat→Prop) (hF:∀q,w.heap.size≤q→F q) (h:bh (mask F w) p v) (hl:ee w vl l) (hlen:l.length≤2000) (iO:Gk l) (ls:bO p.av) (hi:aP id) (hs:aP size):Calls Tryz.prog 109 #[dZ p v,.int .i64 id,.int .i64 size,vl] w (fun e w'=>∃t,Grown l t∧Wu F w {p with av:=fo p.av ⟨id,size,t⟩} e w'):=by
 have HOF:=aa (fun (W:World) (hb:Bw w W)=>Wt l vl W (hl.keep (af hb)) (by omega) iO);have HWT:=aa (fun (t:ag) (a b c:Value) (W:World) (hb:Bw w W) (hg:Grown l t) (hn:bw (mask (fun q=>F q∧¬q=w.heap.size∧¬q=w.heap.size+1) W) t a b c)=>KW p.av ⟨id,size,t⟩ v.v (.agg #[.int .i64 id,.int .i64 size,a,b,c]) W (fun q=>F q∧¬q=w.heap.size∧¬q=w.heap.size+1) (h.av.keep (fun a u hu=>by
  obtain ⟨h1,h2⟩:=ar.1 hu;have:=World.block_lt_of_cell? _ _ h2;exact ar.2 ⟨⟨h1,by omega,by omega⟩,ae hb h2⟩)) ⟨a,b,c,rfl,hi,hs,hn⟩ ls (by
  show (aB t).length≤2000;rw[hg.1];exact hlen))
 have HP:=aa h;have ya:=aa hF;have hl2:=hl;obtain ⟨pl,cl,rfl,_⟩:=hl2;obtain ⟨pk,nk,ck,pc,nc,cc,pp,np,cp,pv,nv,cv,pt,nt,ct,rfl⟩:=h.sl;clear h hl hlen iO ls hi hs hF;obtain ⟨⟨kept,cache,ah,keep,dead⟩,met,gen,aD,av,tabs⟩:=p;unfold dZ;simp only at HWT ⊢;obtain ⟨W1,hW1⟩:=aG ((w.alloc (.cells #[.slice pk nk ck,.slice pc nc cc,.int .i64 ah,.slice pp np cp,.bool dead,.int .i64 met,.int .i64 gen,.int .i64 aD,.slice pv nv cv,.slice pt nt ct] 30)).alloc (.cells #[.slice none 0 0,.slice none 0 0,.int .i64 0,.slice none 0 0,.bool false,.int .i64 0,.int .i64 0,.int .i64 0,.slice none 0 0,.slice none 0 0] 30));have ed:=aa hW1;have aU:=aa (zb w [.slice pk nk ck,.slice pc nc cc,.int .i64 ah,.slice pp np cp,.bool dead,.int .i64 met,.int .i64 gen,.int .i64 aD,.slice pv nv cv,.slice pt nt ct] [.slice none 0 0,.slice none 0 0,.int .i64 0,.slice none 0 0,.bool false,.int .i64 0,.int .i64 0,.int .i64 0,.slice none 0 0,.slice none 0 0] 30 30);rw[hW1] at aU;clear hW1;go_enter Tryz.func109,Tryz.ntmps109;go_upto_region 1 with fail;rw[ed.o];clear ed;have Wv:=aa aU.1.drew;have HZD:=aa aU.2.1.drew;have fL:=aa aU.2.2.drew;have c8:=Wv.cell (j:=8) rfl;go_region_with
  (first|((with_reducible refine (HOF.o _ fL.o).mono ?_);(rintro e w2 ⟨t,ta,tb,tc,rfl,hg,hn,hb⟩);(obtain ⟨qa,na,ka,qb,nb,kb,qc,KX,kc,rfl,rfl,rfl⟩:=bc hn);(have HG:=aa hg);(have HN:=aa hn);(have bU:=aV fL hb);(have dY:=aa (Wv.o.below hb));(have ym:=aa (HZD.o.below hb));(have hz2:=HZD.o.lt);(have HZL:=aa hz2);(have d8:=dY.o.cell (j:=8) rfl);(clear hg hn hb hz2))|((with_reducible refine (HWT.o t _ _ _ _ bU.o HG.o ?_).mono ?_);(exact HN.o.keep (bI fun a u hf hu=>⟨⟨ya.o _ (Nat.le_trans fL.o.size hf.1),by have:=hf.1;have:=HZL.o;omega,by have:=hf.1;have:=HZL.o;omega⟩,hu⟩));(rintro e w3 ⟨v3,rfl,ho,hb⟩);(obtain ⟨p3,c3,rfl,_⟩:=ho.av);(have qD:=aa (ho.at (fun q hq=>⟨ya.o _ (Nat.le_trans bU.o.size hq),by have:=ym.o.lt;omega,by have:=ym.o.lt;omega⟩)));(have dG:=aV bU hb);(have kK:=aa (dY.o.below hb));(have sK:=aa (ym.o.below hb));(have e8:=kK.o.cell (j:=8) rfl);(have e8f:=kK.o.free 8);(clear hb ho)))
 all_goals
  obtain ⟨W4,qu⟩:=aG (w3.setCell ⟨w.heap.size,8,none⟩ (.slice p3 (fo av ⟨id,size,t⟩).length c3));have jQ:=aa (show aJ W4 w.heap.size [.slice pk nk ck,.slice pc nc cc,.int .i64 ah,.slice pp np cp,.bool dead,.int .i64 met,.int .i64 gen,.int .i64 aD,.slice p3 (fo av ⟨id,size,t⟩).length c3,.slice pt nt ct] by rw[← qu];exact kK.set 8 _);have qq:=aa (show aJ W4 (w.heap.size+1) [.slice none 0 0,.slice none 0 0,.int .i64 0,.slice none 0 0,.bool false,.int .i64 0,.int .i64 0,.int .i64 0,.slice none 0 0,.slice none 0 0] by rw[← qu];exact sK.far (by omega) _ _);have gz:=aa (show Bw w W4 by rw[← qu];exact dG.setCell (p:=⟨w.heap.size,8,none⟩) aT _);have JW:=aa (show bh (mask (fun q=>F q∧¬q=w.heap.size∧¬q=w.heap.size+1) W4) ⟨⟨kept,cache,ah,keep,dead⟩,met,gen,aD,fo av ⟨id,size,t⟩,tabs⟩ ⟨.slice pk nk ck,.slice pc nc cc,.slice pp np cp,.slice p3 (fo av ⟨id,size,t⟩).length c3,.slice pt nt ct⟩ by
   rw[← qu];have h4:=HP.keep (w':=mask (fun q=>F q∧¬q=w.heap.size∧¬q=w.heap.size+1) w3) (fun a u hu=>by
    obtain ⟨h1,h2⟩:=ar.1 hu;have:=World.block_lt_of_cell? _ _ h2;exact ar.2 ⟨⟨h1,by omega,by omega⟩,ae dG h2⟩)
   exact bh.keep ⟨h4.disk,qD,h4.tabs,h4.bm,h4.bg,h4.ba⟩ (aN (fun h=>h.2.1 rfl)))
  rw[qu];clear qu c8 d8 e8 e8f;obtain ⟨a0,a1,a2,a3,a4,a5,a6,a7,a8,a9⟩:=jQ.ten;obtain ⟨z0,z1,z2,z3,z4,z5,z6,z7,z8,z9⟩:=qq.ten;obtain ⟨f0,f1,f2,f3,f4,f5,f6,f7,f8,f9⟩:=qq.fj;go_wp2_with fail;have tR:=aa (qq.cS (.slice pk nk ck) (.slice pc nc cc) (.int .i64 ah) (.slice pp np cp) (.bool dead) (.int .i64 met) (.int .i64 gen) (.int .i64 aD) (.slice p3 (fo av ⟨id,size,t⟩).length c3) (.slice pt nt ct));have Yo:=aa (JW.keep (gM (cU (b:=w.heap.size+1) (fun h=>h.2.2 rfl) (.slice pk nk ck) (.slice pc nc cc) (.int .i64 ah) (.slice pp np cp) (.bool dead) (.int .i64 met) (.int .i64 gen) (.int .i64 aD) (.slice p3 (fo av ⟨id,size,t⟩).length c3) (.slice pt nt ct)) (aW (G:=F) fun q h=>h.1)));have gQ:=aa (ew gz (b:=w.heap.size+1) (by omega) (.slice pk nk ck) (.slice pc nc cc) (.int .i64 ah) (.slice pp np cp) (.bool dead) (.int .i64 met) (.int .i64 gen) (.int .i64 aD) (.slice p3 (fo av ⟨id,size,t⟩).length c3) (.slice pt nt ct));have Cp:=tR.o;unfold cS at Yo gQ Cp;obtain ⟨g0,g1,g2,g3,g4,g5,g6,g7,g8,g9⟩:=Cp.ten;refine au (v:=.agg #[.slice pk nk ck,.slice pc nc cc,.int .i64 ah,.slice pp np cp,.bool dead,.int .i64 met,.int .i64 gen,.int .i64 aD,.slice p3 (fo av ⟨id,size,t⟩).length c3,.slice pt nt ct]) ⟨t,HG,⟨.slice pk nk ck,.slice pc nc cc,.slice pp np cp,.slice p3 (fo av ⟨id,size,t⟩).length c3,.slice pt nt ct⟩,rfl,Yo,gQ⟩ ?_;simp[results,Tryz.results109,go_sem,g0,g1,g2,g3,g4,g5,g6,g7,g8,g9]
theorem WU {t:List aj} {j k:Nat} {u v:aj} (hm:dD t=true) (hj:t[j]?=some u) (hk:t[k]?=some v) (h:u.1=v.1):j=k:=by
 have key:∀(j k:Nat) (u v:aj),t[j]?=some u→t[k]?=some v→j<k→u.1<v.1:=fun j k u v hj hk hlt=>by
  have h1:=qY hm hj;have h2:v∈t.drop (j+1):=by rw[List.mem_iff_getElem?];exact ⟨k-(j+1),by rw[List.getElem?_drop,show j+1+(k-(j+1))=k by omega];exact hk⟩
  have h3:=Bc h1 v h2;have h4:=bW.1 (gV hm (List.mem_of_getElem? hj));omega
 rcases Nat.lt_trichotomy j k with h1|h1|h1
 ·have:=key j k u v hj hk h1;omega
 ·exact h1
 ·have:=key k j v u hk hj h1;omega
theorem LI {c:List (List aj)} {x:aA} {C:Nat} {t:List aj} (hm:cF c=true) (hx:cE x=true) (hC:x.chunk=C) (ht:c[C]?=some t) (hno:∀(j:Nat) u,t[j]?=some u→¬(u.1=x.pos∧¬u.2.1=bQ x.size)) :
 fT c x (-1)=if (jI t x.pos (-1)).2=true then (c.set C (jI t x.pos (-1)).1,true) else ([],false):=by
 have hl:=(List.getElem?_eq_some_iff.1 ht).1;unfold fT;rw[hC,Int.toNat_natCast,ht,Option.getD_some];by_cases hh:Hr c x=true
 ·rw[if_pos ⟨hm,hh⟩]
 ·rw[if_neg (fun h=>hh h.2)]
  have alU:mF x.pos t=0:=by
   rcases tW (a:=x.pos) t 0 with ⟨_,h,_⟩|⟨j,u,_,hj,hu,hc,_⟩
   ·exact h
   ·exfalso
    apply hh;have hlen:u.2.1=bQ x.size:=Classical.byContradiction fun h=>hno j u hj ⟨hu,h⟩;unfold Hr;rw[hx,hC,decide_eq_true (by omega),Int.toNat_natCast,ht,Option.getD_some,Bool.true_and,Bool.true_and];exact MT.2 ⟨j,u,hj,hu,hlen⟩
  have hf:(jI t x.pos (-1)).2=false:=by unfold jI;rw[if_neg (fun h=>h.2.1 alU)]
  rw[hf];rfl
theorem LJ {c:List (List aj)} {x:aA} {C:Nat} {t:List aj} {k:Nat} {u:aj} (hm:cF c=true) (hC:x.chunk=C) (ht:c[C]?=some t) (hk:t[k]?=some u) (hu:u.1=x.pos∧¬u.2.1=bQ x.size):fT c x (-1)=([],false):=by
 unfold fT;rw[if_neg];rintro ⟨_,h⟩;unfold Hr at h;rw[hC,Int.toNat_natCast,ht,Option.getD_some,Bool.and_eq_true] at h;obtain ⟨j,v,hj,hv1,hv2⟩:=MT.1 h.2;have wL:dD t=true:=by unfold cF at hm;simp only[Bool.and_eq_true,List.all_eq_true] at hm;exact hm.1 t (List.mem_of_getElem? ht)
 have:=WU wL hk hj (by rw[hu.1,hv1]);subst this;rw[hk] at hj;cases hj;exact hu.2 hv2
theorem YL {W:World} {b1 b2:Nat} {x0 x1 x2 x3 z0 z1 z2 z3:Value} (h1:aJ W b1 [x0,x1,x2,x3]) (h2:aJ W b2 [z0,z1,z2,z3]):W.cell? ⟨b1,0,none⟩=some x0∧W.cell? ⟨b1,1,none⟩=some x1∧W.cell? ⟨b2,0,none⟩=some z0∧W.cell? ⟨b2,1,none⟩=some z1∧W.cell? ⟨b2,2,none⟩=some z2∧W.cell? ⟨b2,3,none⟩=some z3:=⟨h1.cell rfl,h1.cell rfl,h2.cell rfl,h2.cell rfl,h2.cell rfl,h2.cell rfl⟩
theorem mJ.sl {w:World} {B:Nat} {v:Value} {c:List (List aj)} (h:mJ w B v c):∃p n k,v=.slice p n k:=by
 rcases h with ⟨h,_⟩|⟨g,cap,rs,h,_⟩
 ·exact ⟨_,_,_,h⟩
 ·exact ⟨_,_,_,h⟩
theorem mJ.mono {w:World} {B B':Nat} {v:Value} {c:List (List aj)} (h:mJ w B v c) (hb:B'≤B):mJ w B' v c:=by
 rcases h with h|⟨g,cap,rs,h1,h2⟩
 ·exact .inl h
 ·exact .inr ⟨g,cap,rs,h1,h2.mono hb⟩
theorem TE (t:List aj) (B:Nat) (x:aA) (v1:Value) (w:World) (h1:dB w v1 t) (hB:w.cell? ⟨B,1,none⟩=some (.int .i64 x.pos)):Calls Tryz.prog 138 #[v1,.pointer (some ⟨B,0,none⟩)] w fun e w'=>∃v,e=.returned (.tuple #[v,.bool (jI t x.pos (-1)).2])∧w'.ownsRow w.heap.size 52 4 v (jI t x.pos (-1)).1.length (aI (jI t x.pos (-1)).1)∧Bw w w':=by have HD:=aa (LG t x.pos v1 w h1);obtain ⟨p,cp,rfl,_⟩:=h1;obtain ⟨q,hq⟩:=aG (jI t x.pos (-1));rw[hq] at HD ⊢;clear hq;go_enter Tryz.func138,Tryz.ntmps138;go_wp2_with (go_at_call 139;(with_reducible refine HD.o.mono ?_);(rintro e w2 ⟨v2,rfl,ho,hb⟩);(obtain ⟨p2,c2,rfl⟩:=eF ho);have HO:=aa ho;have HB:=aa hb;clear ho hb);refine au (v:=.tuple #[.slice p2 q.1.length c2,.bool q.2]) ⟨_,rfl,HO,HB⟩ ?_;simp[results,Tryz.results138,go_sem]
theorem LK (c:List (List aj)) (x:aA) (B:Nat) (v1:Value) (w:World) (h1:dI w v1 c) (hB:w.cell? ⟨B,1,none⟩=some (.int .i64 x.pos)):Calls Tryz.prog 137 #[v1,x.agg,.func (.func 138) #[] #[.pointer (some ⟨B,0,none⟩)]] w (fun e w'=>∃v,e=.returned (.tuple #[v,.bool (fT c x (-1)).2])∧mJ w' w.heap.size v (fT c x (-1)).1∧Bw w w'):=by
 have dS:=aa (fun (W:World) (hb:Bw w W)=>tY c v1 W (h1.keep (af hb)));have HRM:=aa (fun W=>oV x W);have TA:=aa (fun (hm:cF c=true) (W:World) (hb:Bw w W)=>DL c v1 W (h1.keep (af hb)) (jM hm).1 (jM hm).2);have WV:=aa (fun (t:List aj) (v:Value) (W:World) (hb:Bw w W) (h:dB W v t)=>TE t B x v W h (ae hb hB));obtain ⟨m,hm⟩:=aG (cF c);have HM:=aa hm;rw[hm] at dS TA;obtain ⟨mr,hmr⟩:∃m,cE x=m:=⟨_,rfl⟩
 have HR:=aa hmr;rw[hmr] at HRM;have HI:=aa (bz x);have Q7:=aa (fun (C:Nat) (t:List aj) (h1:cF c=true) (h2:cE x=true) (h3:x.chunk=C) (h4:c[C]?=some t) h5=>LI h1 h2 h3 h4 h5);have af8:=aa (fun (C:Nat) (t:List aj) (k:Nat) (u:aj) (h1:cF c=true) (h3:x.chunk=C) (h4:c[C]?=some t) (h5:t[k]?=some u) h6=>LJ h1 h3 h4 h5 h6);have oP:=aa (show ¬(cF c=true∧cE x=true∧x.chunk<c.length)→fT c x (-1)=([],false) from fun h=>by
  unfold fT;rw[if_neg];rintro ⟨h2,h3⟩;unfold Hr at h3;simp only[Bool.and_eq_true,decide_eq_true_eq] at h3;exact h ⟨h2,h3.1.1,h3.1.2⟩)
 obtain ⟨r,hr⟩:=aG (fT c x (-1));rw[hr] at oP ⊢;have Hv:=aa hr;obtain ⟨p,cp,rfl,a1,a2,ha⟩:=h1;have HA:=aa ha;obtain ⟨N,hN⟩:=aG c.length;rw[hN] at a1 dS TA oP;rw[hN];have hlc:=fK (n:=N) a2;have HN:=aa hN;clear ha hN a1 a2 hm hmr hr hB;have rP:=aa (fun (L:Int) (h0:1≤x.size) (h1:x.size≤256) (hL:bQ x.size=L) W=>xG x.chunk x.pos x.size L x.packed (by omega) (by omega) hL W);obtain ⟨xc,xp,xs,xk⟩:=x;unfold aA.agg at *;simp only at HRM WV HI Q7 af8 rP oP ⊢;obtain ⟨W1,hW1⟩:=aG (w.alloc (.cells #[.int .i64 xc,.int .i64 xp,.int .i64 xs,.bool xk] 50));have aU:=aa (show aJ W1 w.heap.size [.int .i64 xc,.int .i64 xp,.int .i64 xs,.bool xk] by rw[← hW1];exact aJ.new w _ _);have aZ:=aa (show Bw w W1 by rw[← hW1];exact aq);have ed:=aa hW1;clear hW1;go_enter Tryz.func137,Tryz.ntmps137;go_upto_region 1 with fail;rw[ed.o];clear ed;obtain ⟨x0,x1,x2,x3⟩:=aU.four;cases m with
 |false=>have HE:=aa (show r=([],false) from oP (fun h=>by rw[HM.o] at h;exact absurd h.1 (by simp)));go_wp2_with (go_at_call 63;(with_reducible refine (dS.o _ aZ.o).mono ?_);rintro e w5 ⟨rfl,aR⟩;have bA:=aV aZ aR;clear aR);refine au (v:=.tuple #[.slice none 0 0,.bool false]) ⟨.slice none 0 0,by rw[HE.o],by rw[HE.o];exact .inl ⟨rfl,rfl⟩,bA⟩ ?_;simp[results,Tryz.results137,go_sem]
 |true=>
 cases mr with
 |false=>have HE:=aa (show r=([],false) from oP (fun h=>by rw[HR.o] at h;exact absurd h.2.1 (by simp)));go_wp2_with (first|(go_at_call 63;(with_reducible refine (dS.o _ aZ.o).mono ?_);rintro e w5 ⟨rfl,aR⟩;have bA:=aV aZ aR;have fQ:=aa (aU.o.below aR);clear aR;obtain ⟨y0,y1,y2,y3⟩:=fQ.o.four)|(go_at_call 80;(with_reducible refine (HRM.o _).mono ?_);rintro e w6 ⟨rfl,cW⟩;have cQ:=aV bA cW;clear cW));refine au (v:=.tuple #[.slice none 0 0,.bool false]) ⟨.slice none 0 0,by rw[HE.o],by rw[HE.o];exact .inl ⟨rfl,rfl⟩,cQ⟩ ?_;simp[results,Tryz.results137,go_sem]
 |true=>
 obtain ⟨q0,q1,q2,q3,q4,q5,q6⟩:=HI.1 HR.o;obtain ⟨C,rfl⟩:∃C:Nat,xc=C:=⟨xc.toNat,by omega⟩
 by_cases ql:C<N
 case neg=>have HE:=aa (show r=([],false) from oP (fun h=>ql (by have:=h.2.2;omega)));have hd:decide ((N:Int)≤(C:Int))=true:=decide_eq_true (by omega);have Rj:decide (N≤C)=true:=decide_eq_true (by omega);clear q0 q1 q2 q3 q4 q5 q6;go_wp2_with (first|(go_at_call 63;(with_reducible refine (dS.o _ aZ.o).mono ?_);rintro e w5 ⟨rfl,aR⟩;have bA:=aV aZ aR;have fQ:=aa (aU.o.below aR);clear aR;obtain ⟨y0,y1,y2,y3⟩:=fQ.o.four)|(go_at_call 80;(with_reducible refine (HRM.o _).mono ?_);rintro e w6 ⟨rfl,cW⟩;have cQ:=aV bA cW;have kB:=aa (fQ.o.below cW);clear cW;have z0:=kB.o.cell (j:=0) rfl));refine au (v:=.tuple #[.slice none 0 0,.bool false]) ⟨.slice none 0 0,by rw[HE.o],by rw[HE.o];exact .inl ⟨rfl,rfl⟩,cQ⟩ ?_;simp[results,Tryz.results137,go_sem]
 case pos=>
 obtain ⟨L,hL⟩:=aG (bQ xs);have KH:=aa (fun W=>rP L q2 q3 hL W);have ou:=aa hL;have hd:decide ((N:Int)≤(C:Int))=false:=decide_eq_false (by omega);have Rj:decide (N≤C)=false:=decide_eq_false (by omega);have hci:(C:Int)<(N:Int):=by omega
 obtain ⟨t,ht⟩:=fy (l:=c) (k:=C) (by rw[HN.o];exact ql);obtain ⟨g,o,u1,rfl,e1,e2⟩:=HA.o C _ ht;have HU:=aa e2;obtain ⟨pu,cu,rfl,b1,b2,hu⟩:=e2;have WW:=aa e1;have HUC:=aa hu;have HT:=aa ht;obtain ⟨M,hM⟩:=aG t.length;rw[hM] at b1 WW HU;have sG:=aa hM;have Y8:=fK (n:=M) b2;clear e1 hu ht hM b1 b2 hL q0 q1 q2 q3 q4 q5 q6;go_upto_region 3 with (first|(go_at_call 63;(with_reducible refine (dS.o _ aZ.o).mono ?_);rintro e w5 ⟨rfl,aR⟩;have bA:=aV aZ aR;have fQ:=aa (aU.o.below aR);clear aR;obtain ⟨y0,y1,y2,y3⟩:=fQ.o.four)|(go_at_call 80;(with_reducible refine (HRM.o _).mono ?_);rintro e w6 ⟨rfl,cW⟩;have cQ:=aV bA cW;have kB:=aa (fQ.o.below cW);clear cW;have z0:=kB.o.cell (j:=0) rfl));have r1:=ae cQ WW.o;clear x0 x1 x2 x3 y0 y1 y2 y3;go_wp2_with fail;clear z0 r1;go_loopw [34,9] (fun i _ wr=>∃k:Nat,k≤M∧i=.int .i64 k∧(∀(j:Nat) u,j<k→t[j]?=some u→¬(u.1=xp∧¬u.2.1=L))∧aJ wr w.heap.size [.int .i64 C,.int .i64 xp,.int .i64 xs,.bool xk]∧Bw w wr) (fun i _ _=>M-(intOf i).toNat)
 case atStart=>exact ⟨0,dQ,rfl,fun j _ hj=>by omega,kB,cQ⟩
 case round=>
  obtain ⟨k,hk,rfl,hall,hx,hb⟩:=hrel;have ez:=aa hall;have HX:=aa hx;have HB:=aa hb;clear hall hx hb;by_cases hlt:k<M
  case pos=>
   have fO:(k:Int)<(M:Int):=(by omega);obtain ⟨⟨ua,ub,uc,ud⟩,hu⟩:∃s,t[k]?=some s:=⟨_,List.getElem?_eq_getElem (by rw[sG.o];omega)⟩
   obtain ⟨g',o',rfl,y1⟩:=HUC.o k _ hu;obtain ⟨r0,r1,r2,r3⟩:=y1.keep (af HB);simp only at r0 r1 r2 r3;have HUU:=aa hu;clear hu y1;obtain ⟨W2,hW2⟩:=aG (wr.alloc (.cells #[.int .i64 ua,.int .i64 ub,.int .i64 uc,.bool ud] 52));have jf:Bw wr W2:=by rw[← hW2];exact aq
   have Dl:=aa (show aJ W2 wr.heap.size [.int .i64 ua,.int .i64 ub,.int .i64 uc,.bool ud] by rw[← hW2];exact aJ.new wr _ _);have dY:=aa (HX.below jf);have bU:=aV HB jf;go_upto_region 6 with fail
   try rw[hW2]
   clear hW2 jf r0 r1 r2 r3;by_cases hat:ua=xp
   case neg=>
    have e1:(ua==xp)=false:=(by simpa using hat);obtain ⟨u0,u1,u2,u3⟩:=Dl.four;obtain ⟨z0,z1,z2,z3⟩:=dY.four;go_quiet (fail);go_wp2_with fail;go_roundw
    case rel=>
     refine ⟨k+1,by omega,by go_num,fun j u hj hu=>?_,dY.o.below (ay aH _),ay bU.o _⟩;by_cases e:j=k
     ·subst e;rw[HUU.o] at hu;cases hu;exact fun h=>hat h.1
     ·exact ez j u (by omega) hu
    case measure=>simp[intOf];omega
   case pos=>
    have e1:(ua==xp)=true:=(by simpa using hat);have Kl:=aa hat;clear hat;have fL:=aa bU.drew;have HST:=aa (YL Dl.drew dY.drew);go_region_held3 (fun w'=>w'.cell? ⟨wr.heap.size,0,none⟩=some (.int .i64 ua)∧w'.cell? ⟨wr.heap.size,1,none⟩=some (.int .i64 ub)∧w'.cell? ⟨w.heap.size,0,none⟩=some (.int .i64 C)∧w'.cell? ⟨w.heap.size,1,none⟩=some (.int .i64 xp)∧w'.cell? ⟨w.heap.size,2,none⟩=some (.int .i64 xs)∧w'.cell? ⟨w.heap.size,3,none⟩=some (.bool xk))
     (first|exact HST.o|exact gG.o)
     (first|((with_reducible refine (KH.o _).mono ?_);rintro e w7 ⟨rfl,hb⟩;have yP:=aV fL hb;have HXA:=aa (dY.o.drew.below hb);have gG:=aa (YL (Dl.o.drew.below hb) (dY.o.drew.below hb));clear hb))
    by_cases hln:ub=L
    ·have e2:(ub != L)=false:=by simpa using hln
     go_wp2_with fail;go_roundw
     case rel=>
      refine ⟨k+1,by omega,by go_num,fun j u hj hu=>?_,HXA.o,yP.o⟩;by_cases e:j=k
      ·subst e;rw[HUU.o] at hu;cases hu;exact fun h=>h.2 hln
      ·exact ez j u (by omega) hu
     case measure=>simp[intOf];omega
    ·have e2:(ub != L)=true:=by simpa using hln
     have HE:=aa (show r=([],false) by rw[← Hv.o];exact af8 C t k _ HM rfl HT HUU ⟨Kl,by rw[ou.o];exact hln⟩);go_wp2_with fail;refine au (v:=.tuple #[.slice none 0 0,.bool false]) ⟨.slice none 0 0,by rw[HE.o],by rw[HE.o];exact .inl ⟨rfl,rfl⟩,yP⟩ ?_;simp[results,Tryz.results137,go_sem]
  case neg=>
   obtain rfl:k=M:=by omega
   have DN:=aa (Q7.o C t HM HR rfl HT (fun j u hj h=>ez j u (by have:=(List.getElem?_eq_some_iff.1 hj).1;rw[sG.o] at this;exact this) hj (by rw[ou.o] at h;exact h)));have r1:=ae HB WW.o;have z0:=HX.cell (j:=0) rfl;have WX:=aa (WV.o t _ wr HB (HU.keep (af HB)));obtain ⟨q,hq⟩:=aG (jI t xp (-1));rw[Hv.o] at DN
   try simp only at DN
   rw[hq] at DN WX;clear hq;obtain ⟨t2,b⟩:=q
   try simp only at DN WX
   cases b with
   |false=>have HE:=aa (show r=([],false) by rw[DN.o,if_neg (by simp)]);go_wp2_with (go_at_call 138;(with_reducible refine WX.o.mono ?_);(rintro e w7 ⟨v7,rfl,ho,hb⟩);have fg:=aV HB hb;clear ho hb);refine au (v:=.tuple #[.slice none 0 0,.bool false]) ⟨.slice none 0 0,by rw[HE.o],by rw[HE.o];exact .inl ⟨rfl,rfl⟩,fg⟩ ?_;simp[results,Tryz.results137,go_sem]
   |true=>
    have HE:=aa (show r=(c.set C t2,true) by rw[DN.o,if_pos rfl]);go_upto_region 13 with (first|(go_at_call 138;(with_reducible refine WX.o.mono ?_);(rintro e w7 ⟨v7,rfl,ho,hb⟩);(obtain ⟨s6,hs6⟩:=(fw ho).sl);(unfold ik at hs6);(subst hs6);(have pY:=aa ho);(have fg:=aV HB hb);(have ly:=aa (HX.o.below hb));(have alW:=aa hb.size);(clear ho hb))|(go_at_call 77;(with_reducible refine (TA.o (by trivial) _ fg.o).mono ?_);(rintro e w8 ⟨g8,aaO,rs8,rfl,ht8,Cb⟩);(have FP:=aa ht8);(have gQ:=aV fg Cb);(have wI:=aa (ly.o.below Cb));(have Ct:=aa (aM pY.o Cb));(clear Cb ht8)));obtain ⟨s0,hs0⟩:∃s,rs8[C]?=some s:=⟨_,List.getElem?_eq_getElem (by rw[FP.o.1];exact ql)⟩
    have c0:w8.cell? ⟨g8,C,none⟩=some (ik s0):=by obtain ⟨h6,h7⟩:=List.getElem?_eq_some_iff.1 (eQ lJ rs8 C s0 0 (ik s0) hs0 rfl);have:=bJ FP.2.1 _ h6;rw[h7] at this;simpa using this
    have f0:=gC FP.2.1 C;have zz:=wI.cell (j:=0) rfl;have oD:=aa (jL.set (i:=C) (s2:=s6) (l:=t2) (FP.mono (Nat.le_trans HB.size alW)) (bC HB.size Ct) (fun j s hs hj=>by
     have Ur:j<c.length:=by rw[HN.o,← FP.o.1];exact (List.getElem?_eq_some_iff.1 hs).1
     have h:=FP.2.2.1 j s _ hs (List.getElem?_eq_getElem Ur);have h9:=sq pY h;exact ⟨h9.2,h9.1⟩) ql)
    have ux:=aa (gQ.setCell (p:=⟨g8,C,none⟩) (Nat.le_trans fg.size (FP.2.1.lt g8 rfl).1) (ik s6));unfold ik at c0 oD ux;have hc0:(0:Int)≤(C:Int):=by omega
    clear r1 z0 hs0;go_wp2_with fail;refine au (v:=.tuple #[.slice (some ⟨g8,0,none⟩) N aaO,.bool true]) ⟨_,by rw[HE.o],by rw[HE.o];exact .inr ⟨g8,aaO,_,by rw[List.length_set,HN.o],by rw[List.length_set,HN.o];exact oD⟩,ux⟩ ?_;simp[results,Tryz.results137,go_sem]
theorem LL (c:List (List aj)) (x:aA) (v1:Value) (w:World) (h1:dI w v1 c):Calls Tryz.prog 85 #[v1,x.agg] w (fun e w'=>∃v,e=.returned (.tuple #[v,.bool (fT c x (-1)).2])∧mJ w' w.heap.size v (fT c x (-1)).1∧Bw w w'):=by
 obtain ⟨W1,hW1⟩:=aG (w.alloc (.cells #[.int .i64 x.chunk,.int .i64 x.pos,.int .i64 x.size,.bool x.packed] 50));have hX1:aJ W1 w.heap.size [.int .i64 x.chunk,.int .i64 x.pos,.int .i64 x.size,.bool x.packed]:=by rw[← hW1];exact aJ.new w _ _
 have hB1:Bw w W1:=by rw[← hW1];exact aq
 have rz:=aa (LK c x w.heap.size v1 W1 (h1.keep (af hB1)) (hX1.cell (j:=1) rfl));have aU:=aa hX1;have aZ:=aa hB1;obtain ⟨p,cp,rfl,_⟩:=h1;obtain ⟨q,hq⟩:=aG (fT c x (-1));rw[hq] at rz ⊢;clear hq hX1 hB1;obtain ⟨xc,xp,xs,xk⟩:=x;unfold aA.agg at *;simp only at rz aU hW1 ⊢;have ed:=aa hW1;clear hW1;go_enter Tryz.func85,Tryz.ntmps85;go_upto_region 1 with fail;rw[ed.o];clear ed;obtain ⟨x0,x1,x2,x3⟩:=aU.four;go_wp2_with (go_at_call 137;(with_reducible refine rz.o.mono ?_);(rintro e w2 ⟨v2,rfl,ho,hb⟩);(obtain ⟨p2,n2,c2,rfl⟩:=ho.sl);have HO:=aa ho;have HB:=aV aZ hb;have HS:=aa (show w.heap.size≤W1.heap.size from aZ.o.size);clear ho hb);refine au (v:=.tuple #[.slice p2 n2 c2,.bool q.2]) ⟨_,rfl,HO.mono HS,HB⟩ ?_;simp[results,Tryz.results85,go_sem]
end Go.Proofs.YtbigkioechkngaaGreat
