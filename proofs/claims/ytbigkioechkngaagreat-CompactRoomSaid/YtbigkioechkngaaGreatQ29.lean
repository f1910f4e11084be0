/- The proof, part 30. -/
import Derived.Test.YtbigkioechkngaaGreatQ28
set_option maxRecDepth 100000
set_option maxHeartbeats 8000000
namespace Go.Proofs.YtbigkioechkngaaGreat
open Go.RowKit
def abk (w:World) (e:Ending) (w':World):Prop:=∃v t,Grown [(2,49)] t∧e=.returned (dZ (eG t) v)∧bh w' (eG t) v∧Bw w w'
theorem TY:(Tryz.prog.info? 45).map (fun i=>(i.zero,i.size,i.bytes))=some (some (.slice none 0 0),1,24):=by kernel_rfl
theorem agK (w:World):∃w1,(Instr.makeSlice 28 (.int .i64 2) (.int .i64 2)).run Tryz.prog w=.ok (.slice (some ⟨w.heap.size,0,none⟩) 2 2) w1∧(∀F:Nat→Prop,F w.heap.size→dI (mask F w1) (.slice (some ⟨w.heap.size,0,none⟩) 2 2) [[],[]])∧Bw w w1∧w.heap.size<w1.heap.size:=by
 obtain ⟨i0,hi,hz0,hz1,hz2⟩:=info_parts TY;obtain ⟨w1,jP,hown,hg⟩:=run_make_full (P:=Tryz.prog) w w.heap.size 28 45 i0 (.slice none 0 0) 1 Tryz.underlying28 hi hz0 hz1 .i64 .i64 2 (by rw[hz2];omega) (by unfold maxLen;omega) aT;have e:(Value.slice none 0 0).cells = #[Value.slice none 0 0]:=rfl;rw[e,toList_madeCells_one,Nat.mul_one] at hown;refine ⟨w1,jP,fun F hF=>?_,aH.grown hg aT (fun k e=>by cases e),(hown.lt _ rfl).2⟩;have ht:fe w1 (fun q=>q=w.heap.size) (.slice (some ⟨w.heap.size,0,none⟩) 2 2) [[],[]]:=by
  refine ⟨[(none,0,0),(none,0,0)],⟨rfl,bC dQ hown,fun i s t hs ht=>?_,fun i j s s' _ hs nU=>.inl ?_⟩,fun g e=>(by simpa [Value.ownBlock] using e.symm),fun i s hs g e=>?_⟩
  ·have h1:s=(none,0,0):=by rcases i with _|_|i <;> simp at hs <;> exact hs.symm
   have h2:t=[]:=by rcases i with _|_|i <;> simp at ht <;> exact ht
   subst h1;subst h2;exact World.ownsRow_nil _ _ _ _
  ·have h1:s=(none,0,0):=by rcases i with _|_|i <;> simp at hs <;> exact hs.symm
   rw[h1];rfl
  ·have h1:s=(none,0,0):=by rcases i with _|_|i <;> simp at hs <;> exact hs.symm
   rw[h1] at e;cases e
 exact ht.at.keep (aW fun q h=>by rw[h];exact hF)
theorem Xp (w:World):∃w1,(Instr.makeSlice 112 (.int .i64 256) (.int .i64 256)).run Tryz.prog w=.ok (.slice (some ⟨w.heap.size,0,none⟩) 256 256) w1∧Bw w w1∧∀w2,Bw w1 w2→(convert 112 9 (.slice (some ⟨w.heap.size,0,none⟩) 256 256)).run Tryz.prog w2=.ok (.string ⟨mL.toArray⟩) w2:=by obtain ⟨i0,hi,hz0,hz1,hz2⟩:=info_parts D7;obtain ⟨w1,jP,hown,hg⟩:=run_make_full (P:=Tryz.prog) w w.heap.size 112 5 i0 (.int .u8 0) 1 Tryz.underlying112 hi hz0 hz1 .i64 .i64 256 (by rw[hz2];omega) (by unfold maxLen;omega) aT;have e:(Value.int .u8 0).cells = #[Value.int .u8 0]:=rfl;rw[e,toList_madeCells_one,Nat.mul_one] at hown;refine ⟨w1,jP,aH.grown hg aT (fun k e=>by cases e),fun w2 hb=>?_⟩;exact Eo (P:=Tryz.prog) (w:=w2) (B:=w.heap.size) (g:=w.heap.size) (cap:=256) (l:=mL) Tryz.underlying112 Tryz.underlying5 Tryz.underlying9 (aM hown hb)
theorem Jm {P:Program} {md:Region.Mode} {ops:Array Oper} {Q:Exit→Act→World→Prop} {S S':World→Prop} (hs:∀w,S' w→S w):∀(fuel:Nat) (listed:Array Bool) (a:Act) (w:World),wpAnyH P md ops Q S' fuel listed a w→wpAnyH P md ops Q S fuel listed a w
 |0,_,_,_,h=>h
 |fuel+1,_,_,_,h=>⟨h.1,fun i hi=>wpOp_mono (fun a' w' h'=>⟨hs _ h'.1,Jm hs fuel _ a' w' h'.2⟩) (h.2 i hi)⟩
theorem zh {F:Nat→Prop} {w:World} {b:Nat} (h:¬F b) (y0 y1 y2:Value):dJ (mask F w) (mask F (((w.setCell ⟨b,0,none⟩ y0).setCell ⟨b,1,none⟩ y1).setCell ⟨b,2,none⟩ y2)):=
 fun a u hu=>aN h a u (aN h a u (aN h a u hu))
def FM (z n a b q:Nat):Prop:=¬q=z∧(q<n∨(a≤q∧q<b))
theorem Nf {V W u:World} {n a:Nat} {F:Nat→Prop} {x0 x1 x2 x3 x4 x5 x6 x7 x8 x9 y0 y1 y2 y3 y4 y5 y6 y7 y8 y9:Value} (hu:cS W a y0 y1 y2 y3 y4 y5 y6 y7 y8 y9=u) (hA:aJ W a [x0,x1,x2,x3,x4,x5,x6,x7,x8,x9]) (hU:Below n V W) (hn:n≤a) (hF:¬F a) :
 aJ u a [y0,y1,y2,y3,y4,y5,y6,y7,y8,y9]∧W.grownBy u (some a)∧Below n V u∧dJ (mask F W) (mask F u):=by
 subst hu;exact ⟨hA.cS ..,iF ..,ew hU hn ..,cU hF _ _ _ _ _ _ _ _ _ _⟩
theorem P1 {V W u:World} {n a:Nat} {F:Nat→Prop} {y0 y1 y2:Value} (hu:((W.setCell ⟨a,0,none⟩ y0).setCell ⟨a,1,none⟩ y1).setCell ⟨a,2,none⟩ y2=u) (hU:Below n V W) (hn:n≤a) (hF:¬F a) :
 W.grownBy u (some a)∧Below n V u∧dJ (mask F W) (mask F u):=by
 subst hu;exact ⟨pD ..,ue hU hn ..,zh hF _ _ _⟩
theorem Xq (w:World):Calls Tryz.prog 24 #[] w (abk w):=by
 obtain ⟨W1,hW1⟩:=aG (w.alloc (.cells #[.slice none 0 0,.slice none 0 0,.int .i64 0,.slice none 0 0,.bool false,.int .i64 0,.int .i64 0,.int .i64 0,.slice none 0 0,.slice none 0 0] 30));have HZ1:=aa (show aJ W1 w.heap.size il by rw[← hW1];exact aJ.new w il 30);have aZ:=aa (show Bw w W1 by rw[← hW1];exact aq);have HNW:=aa (P0 42 (by unfold aP;omega) W1 (fun q=>¬q=w.heap.size) (fun q hq=>by have:=HZ1.lt;omega));rw[agk] at HNW;have ed:=aa hW1;clear hW1;go_enter Tryz.func24,Tryz.ntmps24;go_upto_region 1 with fail;rw[ed.o];clear ed;unfold AF eE at HNW;go_upto_region 2 with (go_at_call 60;(with_reducible refine HNW.o.mono ?_);rintro e w2 ⟨vk,vc,vp,rfl,hd,hb⟩;obtain ⟨pk,ck,rfl,_,_⟩:=hd.kept.slice;obtain ⟨pc,cc,rfl,_,_⟩:=hd.cache.slice;obtain ⟨pp,cp,rfl,_,_⟩:=hd.keep.slice;have C2:=aa hd;have bU:=aV aZ hb;have ym:=aa (HZ1.o.below hb);clear hd hb);obtain ⟨W3,hW3⟩:=aG (w2.alloc (.cells #[.slice pk cV.kept.length ck,.slice pc cV.cache.length cc,.int .i64 cV.ah,.slice pp cV.keep.length cp,.bool cV.dead] 26));have kK:=aa (show aJ W3 w2.heap.size [.slice pk cV.kept.length ck,.slice pc cV.cache.length cc,.int .i64 cV.ah,.slice pp cV.keep.length cp,.bool cV.dead] by rw[← hW3];exact aJ.new w2 [.slice pk cV.kept.length ck,.slice pc cV.cache.length cc,.int .i64 cV.ah,.slice pp cV.keep.length cp,.bool cV.dead] 26);have hb3:Bw w2 W3:=by rw[← hW3];exact aq
 have dG:=aV bU hb3;have sK:=aa (ym.below hb3);have U0:=aa (C2.keeps (aC hb3 fun _ _ h=>h));rw[hW3];clear hW3 hb3;go_cut [3] from 12 to 14 (fun v3 wx=>∃(b3:Nat) (tp:Option Addr) (tc:Nat),v3=.pointer (some ⟨b3,0,none⟩)∧aJ wx b3 [.slice pk cV.kept.length ck,.slice pc cV.cache.length cc,.int .i64 cV.ah,.slice pp cV.keep.length cp,.bool cV.dead,.int .i64 4,.int .i64 1,.int .i64 0,.slice none 0 0,.slice tp 2 tc]∧dI (mask (fun q=>¬q=w.heap.size) wx) (.slice tp 2 tc) [[],[]]∧Bw W3 wx)
 case first=>
  refine wp_region_held_drew (S:=fun w'=>Bw W3 w') (by kernel_rfl) aH.drew (fun hHeld=>?_);obtain ⟨u,hu⟩:∃x,W3.drew=x:=⟨_,rfl⟩
  have HU:=aa (show Bw W3 u by rw[← hu];exact aH.drew);have hzl:=sK.lt;rw[hu] at hHeld ⊢;clear hu;refine cD 0 12 (.agg #[.slice pk cV.kept.length ck,.slice pc cV.cache.length cc,.int .i64 cV.ah,.slice pp cV.keep.length cp,.bool cV.dead]) rfl rfl hHeld ?_ (fun w' hSw=>by obtain ⟨x0,x1,x2,x3,x4⟩:=(kK.below hSw).five;go_simp);simp only[aF]
  repeat' first
   |refine rgN
   |(refine yO 1 rfl (fun K hK=>?_) ?_;(
    obtain ⟨c0,hc⟩:∃x,u.heap.size=x:=⟨_,rfl⟩
    have LC:=aa (show W3.heap.size≤c0 by rw[← hc];exact HU.size)
    try have NE:=aa (show ¬c0=a by rw[← hc];exact A.ne)
    obtain ⟨u,jP,Ou,hb,hl⟩:=agK u;rw[hc] at jP Ou hl;go_simp;have TB:=aa (Ou (fun q=>q=c0) rfl);have LT:=aa hl
    try replace A:=aa (A.below hb)
    replace HU:=aV HU hb;clear jP Ou hb hc hl;refine hK.out _ _ HU (fun hHeld=>?_);clear hK K;refine cD 2 14 (.agg #[.slice pk cV.kept.length ck,.slice pc cV.cache.length cc,.int .i64 cV.ah,.slice pp cV.keep.length cp,.bool cV.dead,.int .i64 4,.int .i64 1,.int .i64 0,.slice none 0 0,.slice (some ⟨c0,0,none⟩) 2 2]) rfl rfl hHeld ?_;simp only[aF]))
   |(refine yO 3 rfl (fun K hK=>?_) ?_;(
    go_simp;obtain ⟨a,ha⟩:∃x,u.heap.size=x:=⟨_,rfl⟩
    obtain ⟨u,hu⟩:∃x,u.alloc (.cells #[.slice none 0 0,.slice none 0 0,.int .i64 0,.slice none 0 0,.bool false,.int .i64 0,.int .i64 0,.int .i64 0,.slice none 0 0,.slice none 0 0] 30)=x:=⟨_,rfl⟩
    obtain ⟨hn,hb⟩:=vC (cs:=[.slice none 0 0,.slice none 0 0,.int .i64 0,.slice none 0 0,.bool false,.int .i64 0,.int .i64 0,.int .i64 0,.slice none 0 0,.slice none 0 0]) ha hu;have A:=aa hn;have LA:=aa (show W3.heap.size≤a by rw[← ha];exact HU.size)
    try have NE:=aa (show ¬c0=a by have:=LT.o;omega)
    try replace TB:=aa (TB.keep (aC hb fun _ _ h=>h))
    replace HU:=aV HU hb;rw[hu,ha];clear hn hb hu ha;refine hK.out _ _ HU (fun hHeld=>?_);clear hK K))
   |(refine yO 4 rfl (fun K hK=>?_) ?_;(
    obtain ⟨n0,n1,n2,n3,n4,n5,n6,n7,n8,n9⟩:=A.ten;obtain ⟨f0,f1,f2,f3,f4,f5,f6,f7,f8,f9⟩:=A.fj;go_simp;obtain ⟨u,hu⟩:∃x,cS u a (.slice pk cV.kept.length ck) (.slice pc cV.cache.length cc) (.int .i64 cV.ah) (.slice pp cV.keep.length cp) (.bool cV.dead) (.int .i64 4) (.int .i64 1) (.int .i64 0) (.slice none 0 0) (.slice (some ⟨c0,0,none⟩) 2 2)=x:=⟨_,rfl⟩
    obtain ⟨h1,h2,h3,h4⟩:=Nf (F:=fun q=>q=c0) hu A HU LA (fun h=>NE h.symm);unfold cS at hu;rw[hu];refine hK.out _ _ h3 (fun hHeld=>?_);clear hK K hHeld hu n0 n1 n2 n3 n4 n5 n6 n7 n8 n9 f0 f1 f2 f3 f4 f5 f6 f7 f8 f9;refine wpAnyH_done (by kernel_rfl) ?_ _;go_wp2_with fail;go_meet;exact ⟨a,_,_,rfl,h1,(TB.keep h4).keep (aW fun q h=>by have:q=c0:=h;have:=LC.o;omega),h3⟩))
   |refine rgR ?_
 case rest=>
  obtain ⟨b3,tp,tc,rfl,hx3,Ou,fN⟩:=hcut;have om:=aa (show bh (mask (fun q=>¬q=w.heap.size) wc) yD ⟨.slice pk cV.kept.length ck,.slice pc cV.cache.length cc,.slice pp cV.keep.length cp,.slice none 0 0,.slice tp 2 tc⟩ from ⟨U0.keeps (aC fN fun _ _ h=>h),⟨none,0,rfl,aT,by unfold maxLen;omega,fun j d hd=>by simp[yD] at hd⟩,Ou,by show aP 4;unfold aP;omega,by show aP 1;unfold aP;omega,by show aP 0;unfold aP;omega⟩);have sO:=aV dG fN;have HZX:=aa (sK.below fN);have hzl:=HZX.lt;have MM:=aa (LY _ wc (fun q=>¬q=w.heap.size) (fun q hq=>by omega) om);simp only at MM;obtain ⟨x0,x1,x2,x3,x4,x5,x6,x7,x8,x9⟩:=hx3.ten;clear hx3 Ou fN;go_upto_region 4 with (go_at_call 61;(with_reducible refine MM.o.mono ?_);rintro e w5 ⟨t1,v5,hg1,rfl,Cc,aR⟩;obtain ⟨qk,mk,jk,qc,mc,jc,qp,mp,jp,qv,mv,jv,qt,mt,jt,rfl⟩:=Cc.sl;have Mp:=aa hg1;have HP5:=aa Cc;have bA:=aV sO aR;have si:=aa (HZX.o.below aR);clear hg1 Cc aR;simp only[]);obtain ⟨V6,hV6⟩:∃x,(w5.alloc (.cells #[.slice qk mk jk,.slice qc mc jc,.int .i64 cV.ah,.slice qp mp jp,.bool cV.dead,.int .i64 4,.int .i64 1,.int .i64 0,.slice qv mv jv,.slice qt mt jt] 30)).alloc (.cells #[.int .i64 0,.string eB,.int .i64 0] 107)=x:=⟨_,rfl⟩
  have SV:=zb w5 [.slice qk mk jk,.slice qc mc jc,.int .i64 cV.ah,.slice qp mp jp,.bool cV.dead,.int .i64 4,.int .i64 1,.int .i64 0,.slice qv mv jv,.slice qt mt jt] [.int .i64 0,.string eB,.int .i64 0] 30 107;rw[hV6] at SV;have kB:=aa SV.1;have cQ:=aa (ak bA SV.2.2);have Hz:=aa (si.below SV.2.2);have WE:=aa (HP5.keep (aC SV.2.2 fun _ _ h=>h));rw[hV6];clear hV6 SV x0 x1 x2 x3 x4 x5 x6 x7 x8 x9;have atY:=Hz.lt;go_cut [6] from 5 to 29 (fun v6 wx=>∃(b6:Nat) (t:ag) (a1:Option Addr) (a2 a3:Nat) (b1:Option Addr) (b2 b3:Nat) (c1:Option Addr) (c2 c3:Nat) (d1:Option Addr) (d2 d3:Nat) (e1:Option Addr) (e2 e3:Nat),v6=.pointer (some ⟨b6,0,none⟩)∧Grown [(2,49)] t∧aJ wx b6 [.slice a1 a2 a3,.slice b1 b2 b3,.int .i64 cK.ah,.slice c1 c2 c3,.bool cK.dead,.int .i64 4,.int .i64 1,.int .i64 0,.slice d1 d2 d3,.slice e1 e2 e3]∧bh (mask (fun q=>¬q=w.heap.size) wx) (eG t) ⟨.slice a1 a2 a3,.slice b1 b2 b3,.slice c1 c2 c3,.slice d1 d2 d3,.slice e1 e2 e3⟩∧Bw V6 wx)
  case first=>
   refine wp_region_held_drew (S:=fun w'=>Bw V6 w') (by kernel_rfl) aH.drew (fun hHeld=>?_);obtain ⟨u,hu⟩:∃x,V6.drew=x:=⟨_,rfl⟩
   have HU:=aa (show Bw V6 u by rw[← hu];exact aH.drew);rw[hu] at hHeld ⊢;clear hu;refine cD 0 22 (.agg #[.slice qk mk jk,.slice qc mc jc,.int .i64 cV.ah,.slice qp mp jp,.bool cV.dead,.int .i64 4,.int .i64 1,.int .i64 0,.slice qv mv jv,.slice qt mt jt]) rfl rfl hHeld ?_ (fun w' hSw=>by obtain ⟨x0,x1,x2,x3,x4,x5,x6,x7,x8,x9⟩:=(kB.below hSw).ten;go_simp);simp only[aF]
   repeat' first
    |refine rgN
    |(refine wpAnyH_done (by decide +kernel) ?_ _;(
     clear hHeld;go_wp2_with fail;go_meet;exact ⟨a,t,_,_,_,_,_,_,_,_,_,_,_,_,_,_,_,rfl,G,A,D.keep (aW fun q h=>h.1),HU⟩))
    |refine rgR ?_
    |(refine yO 1 rfl (fun K hK=>?_) ?_;(
     obtain ⟨u,jP,hb,hcv⟩:=Xp u;go_simp;have V:=aa hcv;have M:=aa (Below.refl u.heap.size u)
     try replace A:=aa (A.below hb)
     try replace B:=aa (B.below hb)
     replace HU:=aV HU hb;clear jP hb hcv;refine hK.out _ _ HU (fun hHeld=>?_);clear hK K))
    |(refine yO 2 rfl (fun K hK=>?_) ?_;(
     have hcv:=V.o _ M.o;go_simp;clear hcv V M;refine hK.out _ _ HU (fun hHeld=>?_);clear hK K;refine cD 3 25 (.agg #[.int .i64 4,.int .i64 1,.int .i64 0,.int .i64 2,.int .i64 0,.string ⟨mL.toArray⟩]) rfl rfl hHeld ?_;simp only[aF]))
    |(refine yO 4 rfl (fun K hK=>?_) ?_;(
     obtain ⟨c0,hc⟩:∃x,u.heap.size=x:=⟨_,rfl⟩
     have hsz:=HU.size;have HC:=PY Mp _ u (fun q=>¬q=w.heap.size∧(q<V6.heap.size∨c0≤q)) (fun q hq=>⟨by omega,.inr (by omega)⟩) (WE.keep (aC HU fun q hq h=>⟨h,.inl hq⟩));simp only at HC;replace HC:=aa HC
     try have OA:=aa (show a<c0 by rw[← hc];exact A.lt)
     try have OB:=aa (show b<c0 by rw[← hc];exact B.lt)
     clear hsz hc;go_simp;refine HC.mono ?_;clear HC;rintro e u ⟨t,v,hg,rfl,hp,hb⟩;obtain ⟨rk,nk,lk,rc,nc,lc,rp,np,lp,rv,nv,lv,rt,nt,lt,rfl⟩:=hp.sl;obtain ⟨c1,hc⟩:∃x,u.heap.size=x:=⟨_,rfl⟩
     have G:=aa hg;have D:=aa (show bh (mask (FM w.heap.size V6.heap.size c0 c1) u) (eG t) _ from hp.keep (aC (Below.refl u.heap.size u) fun q hq h=>⟨h.1,h.2.imp id fun h=>⟨h,by omega⟩⟩));have C:=aa (Nat.le_of_eq hc.symm)
     try replace A:=aa (A.below hb)
     try replace B:=aa (B.below hb)
     replace HU:=aV HU hb;clear hb hp hg hc;refine hK.out _ _ HU (fun hHeld=>?_);clear hK K;refine cD 5 21 (.tuple #[.agg #[.slice rk nk lk,.slice rc nc lc,.int .i64 cK.ah,.slice rp np lp,.bool cK.dead,.int .i64 4,.int .i64 1,.int .i64 0,.slice rv nv lv,.slice rt nt lt],.agg #[.int .i64 0,.string eB,.int .i64 0]]) rfl rfl hHeld ?_;simp only[aF];refine cD 6 27 (.agg #[.slice rk nk lk,.slice rc nc lc,.int .i64 cK.ah,.slice rp np lp,.bool cK.dead,.int .i64 4,.int .i64 1,.int .i64 0,.slice rv nv lv,.slice rt nt lt]) rfl rfl hHeld ?_;simp only[aF];refine cD 7 28 (.agg #[.int .i64 0,.string eB,.int .i64 0]) rfl rfl hHeld ?_;simp only[aF]))
    |(refine yO 8 rfl (fun K hK=>?_) ?_;(
     go_simp;obtain ⟨a,ha⟩:∃x,u.heap.size=x:=⟨_,rfl⟩
     obtain ⟨u,hu⟩:∃x,u.alloc (.cells #[.slice none 0 0,.slice none 0 0,.int .i64 0,.slice none 0 0,.bool false,.int .i64 0,.int .i64 0,.int .i64 0,.slice none 0 0,.slice none 0 0] 30)=x:=⟨_,rfl⟩
     obtain ⟨hn,hb⟩:=vC (cs:=[.slice none 0 0,.slice none 0 0,.int .i64 0,.slice none 0 0,.bool false,.int .i64 0,.int .i64 0,.int .i64 0,.slice none 0 0,.slice none 0 0]) ha hu;have A:=aa hn;have LA:=aa (show V6.heap.size≤a by rw[← ha];exact HU.size)
     try have NE:=aa (show ¬a=b by rw[← ha];exact B.ne)
     try have OA:=aa (show c1≤a by rw[← ha];exact C)
     try replace C:=aa (Nat.le_trans C hb.size)
     try replace B:=aa (B.below hb)
     try replace D:=aa (D.keep (aC hb fun _ _ h=>h))
     try replace M:=aV M hb
     replace HU:=aV HU hb;rw[hu,ha];clear hn hb hu ha;refine hK.out _ _ HU (fun hHeld=>?_);clear hK K))
    |(refine yO 9 rfl (fun K hK=>?_) ?_;(
     go_simp;obtain ⟨b,ha⟩:∃x,u.heap.size=x:=⟨_,rfl⟩
     obtain ⟨u,hu⟩:∃x,u.alloc (.cells #[.int .i64 0,.string ⟨#[]⟩,.int .i64 0] 107)=x:=⟨_,rfl⟩
     obtain ⟨hn,hb⟩:=vC (cs:=[.int .i64 0,.string ⟨#[]⟩,.int .i64 0]) ha hu;have B:=aa hn;have LB:=aa (show V6.heap.size≤b by rw[← ha];exact HU.size)
     try have NE:=aa (show ¬b=a by rw[← ha];exact A.ne)
     try have OB:=aa (show c1≤b by rw[← ha];exact C)
     try replace C:=aa (Nat.le_trans C hb.size)
     try replace A:=aa (A.below hb)
     try replace D:=aa (D.keep (aC hb fun _ _ h=>h))
     try replace M:=aV M hb
     replace HU:=aV HU hb;rw[hu,ha];clear hn hb hu ha;refine hK.out _ _ HU (fun hHeld=>?_);clear hK K))
    |(refine yO 10 rfl (fun K hK=>?_) ?_;(
     obtain ⟨n0,n1,n2,n3,n4,n5,n6,n7,n8,n9⟩:=A.ten;obtain ⟨f0,f1,f2,f3,f4,f5,f6,f7,f8,f9⟩:=A.fj;go_simp;obtain ⟨u,hu⟩:∃x,cS u a (.slice rk nk lk) (.slice rc nc lc) (.int .i64 cK.ah) (.slice rp np lp) (.bool cK.dead) (.int .i64 4) (.int .i64 1) (.int .i64 0) (.slice rv nv lv) (.slice rt nt lt)=x:=⟨_,rfl⟩
     obtain ⟨h1,h2,h3,h4⟩:=Nf (F:=FM w.heap.size V6.heap.size c0 c1) hu A HU LA (fun h=>by have:=OA.o;have:=LA.o;unfold FM at h;omega);replace B:=aa (B.grown h2 (fun e=>by have:=Option.some.inj e;have:=NE.o;omega));replace A:=aa h1;replace HU:=aa h3;replace D:=aa (D.keep h4);clear h1 h2 h3 h4 n0 n1 n2 n3 n4 n5 n6 n7 n8 n9 f0 f1 f2 f3 f4 f5 f6 f7 f8 f9;unfold cS at hu;rw[hu];clear hu;refine hK.out _ _ HU (fun hHeld=>?_);clear hK K))
    |(refine yO 11 rfl (fun K hK=>?_) ?_;(
     have n0:=B.cell (j:=0) rfl;have n1:=B.cell (j:=1) rfl;have n2:=B.cell (j:=2) rfl;obtain ⟨f0,f1,f2⟩:=B.abd;go_simp;obtain ⟨u,hu⟩:∃x,((u.setCell ⟨b,0,none⟩ (.int .i64 0)).setCell ⟨b,1,none⟩ (.string eB)).setCell ⟨b,2,none⟩ (.int .i64 0)=x:=⟨_,rfl⟩
     obtain ⟨h2,h3,h4⟩:=P1 (F:=FM w.heap.size V6.heap.size c0 c1) hu HU LB (fun h=>by have:=OB.o;have:=LB.o;unfold FM at h;omega);replace A:=aa (A.grown h2 (fun e=>by have:=Option.some.inj e;have:=NE.o;omega));replace HU:=aa h3;replace D:=aa (D.keep h4);clear h2 h3 h4 n0 n1 n2 f0 f1 f2;rw[hu];clear hu;refine hK.out _ _ HU (fun hHeld=>?_);clear hK K))
  case rest=>obtain ⟨b6,t,a1,a2,a3,b1,b2,b3,c1,c2,c3,d1,d2,d3,e1,e2,e3,rfl,hg,hx,hp,hb⟩:=hcut;obtain ⟨y0,y1,y2,y3,y4,y5,y6,y7,y8,y9⟩:=hx.ten;have hz:=Hz.below hb;unfold il at hz;obtain ⟨z0,z1,z2,z3,z4,z5,z6,z7,z8,z9⟩:=hz.ten;obtain ⟨f0,f1,f2,f3,f4,f5,f6,f7,f8,f9⟩:=hz.fj;have E0:=aa (hz.cS (.slice a1 a2 a3) (.slice b1 b2 b3) (.int .i64 cK.ah) (.slice c1 c2 c3) (.bool cK.dead) (.int .i64 4) (.int .i64 1) (.int .i64 0) (.slice d1 d2 d3) (.slice e1 e2 e3));have Wl:=aa ((hp.keep (cU (b:=w.heap.size) (fun h=>h rfl) (.slice a1 a2 a3) (.slice b1 b2 b3) (.int .i64 cK.ah) (.slice c1 c2 c3) (.bool cK.dead) (.int .i64 4) (.int .i64 1) (.int .i64 0) (.slice d1 d2 d3) (.slice e1 e2 e3))).keep dh);have fg:=aa (ew (ak cQ hb) aT (.slice a1 a2 a3) (.slice b1 b2 b3) (.int .i64 cK.ah) (.slice c1 c2 c3) (.bool cK.dead) (.int .i64 4) (.int .i64 1) (.int .i64 0) (.slice d1 d2 d3) (.slice e1 e2 e3));have HG:=aa hg;clear hg hz hp hb hx;unfold cS at E0 Wl fg;obtain ⟨g0,g1,g2,g3,g4,g5,g6,g7,g8,g9⟩:=E0.ten;go_wp2_with fail;refine bodyPost_ret (v:=.agg #[.slice a1 a2 a3,.slice b1 b2 b3,.int .i64 cK.ah,.slice c1 c2 c3,.bool cK.dead,.int .i64 4,.int .i64 1,.int .i64 0,.slice d1 d2 d3,.slice e1 e2 e3]) (by simp[results,Tryz.results24,go_sem,g0,g1,g2,g3,g4,g5,g6,g7,g8,g9]) rfl ?_;exact ⟨⟨_,_,_,_,_⟩,t,HG,rfl,Wl,fg⟩
end Go.Proofs.YtbigkioechkngaaGreat
