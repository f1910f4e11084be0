/- The proof, part 22. -/
import Derived.Test.YtbigkioechkngaaGreatR20
set_option maxRecDepth 100000
set_option maxHeartbeats 8000000
namespace Go.Proofs.YtbigkioechkngaaGreat
open Go.RowKit Go.Proofs.Tryz
def aaF (w:World) (e:Ending) (w':World):Prop:=∃v t,Grown [(2,49)] t∧e=.returned (eY (eB t) v)∧br w' (eB t) v∧Bw w w'
theorem Ts:(prog.info? 45).map (fun i=>(i.zero,i.size,i.bytes))=some (some (.slice none 0 0),1,24):=by kernel_rfl
theorem af0 (w:World):∃w1,(Instr.makeSlice 28 (.int .i64 2) (.int .i64 2)).run prog w=.ok (.slice (some ⟨w.heap.size,0,none⟩) 2 2) w1∧(∀F:Nat→Prop,F w.heap.size→dH (mask F w1) (.slice (some ⟨w.heap.size,0,none⟩) 2 2) [[],[]])∧Bw w w1∧w.heap.size<w1.heap.size:=by
 obtain ⟨i0,hi,hz0,hz1,hz2⟩:=info_parts Ts;obtain ⟨w1,jJ,hown,hg⟩:=run_make_full (P:=prog) w w.heap.size 28 45 i0 (.slice none 0 0) 1 underlying28 hi hz0 hz1 .i64 .i64 2 (by rw[hz2];omega) (by unfold maxLen;omega) aT;have e:(Value.slice none 0 0).cells = #[Value.slice none 0 0]:=rfl;rw[e,toList_madeCells_one,Nat.mul_one] at hown;refine ⟨w1,jJ,fun F hF=>?_,aH.grown hg aT (fun k e=>by cases e),(hown.lt _ rfl).2⟩;have ht:eZ w1 (fun q=>q=w.heap.size) (.slice (some ⟨w.heap.size,0,none⟩) 2 2) [[],[]]:=by
  refine ⟨[(none,0,0),(none,0,0)],⟨rfl,bz dO hown,fun i s t hs ht=>?_,fun i j s s' _ hs nM=>.inl ?_⟩,fun g e=>(by simpa [Value.ownBlock] using e.symm),fun i s hs g e=>?_⟩
  ·have h1:s=(none,0,0):=by rcases i with _|_|i <;> simp at hs <;> exact hs.symm
   have h2:t=[]:=by rcases i with _|_|i <;> simp at ht <;> exact ht
   subst h1;subst h2;exact World.ownsRow_nil _ _ _ _
  ·have h1:s=(none,0,0):=by rcases i with _|_|i <;> simp at hs <;> exact hs.symm
   rw[h1];rfl
  ·have h1:s=(none,0,0):=by rcases i with _|_|i <;> simp at hs <;> exact hs.symm
   rw[h1] at e;cases e
 exact ht.at.keep (aV fun q h=>by rw[h];exact hF)
theorem WJ (w:World):∃w1,(Instr.makeSlice 112 (.int .i64 256) (.int .i64 256)).run prog w=.ok (.slice (some ⟨w.heap.size,0,none⟩) 256 256) w1∧Bw w w1∧∀w2,Bw w1 w2→(convert 112 9 (.slice (some ⟨w.heap.size,0,none⟩) 256 256)).run prog w2=.ok (.string ⟨mF.toArray⟩) w2:=by obtain ⟨i0,hi,hz0,hz1,hz2⟩:=info_parts Dx;obtain ⟨w1,jJ,hown,hg⟩:=run_make_full (P:=prog) w w.heap.size 112 5 i0 (.int .u8 0) 1 underlying112 hi hz0 hz1 .i64 .i64 256 (by rw[hz2];omega) (by unfold maxLen;omega) aT;have e:(Value.int .u8 0).cells = #[Value.int .u8 0]:=rfl;rw[e,toList_madeCells_one,Nat.mul_one] at hown;refine ⟨w1,jJ,aH.grown hg aT (fun k e=>by cases e),fun w2 hb=>?_⟩;exact DU (P:=prog) (w:=w2) (B:=w.heap.size) (g:=w.heap.size) (cap:=256) (l:=mF) underlying112 underlying5 underlying9 (aL hown hb)
theorem IY {P:Program} {md:Region.Mode} {ops:Array Oper} {Q:Exit→Act→World→Prop} {S S':World→Prop} (hs:∀w,S' w→S w):∀(fuel:Nat) (listed:Array Bool) (a:Act) (w:World),wpAnyH P md ops Q S' fuel listed a w→wpAnyH P md ops Q S fuel listed a w
 |0,_,_,_,h=>h
 |fuel+1,_,_,_,h=>⟨h.1,fun i hi=>wpOp_mono (fun a' w' h'=>⟨hs _ h'.1,IY hs fuel _ a' w' h'.2⟩) (h.2 i hi)⟩
theorem yL {F:Nat→Prop} {w:World} {b:Nat} (h:¬F b) (y0 y1 y2:Value):dI (mask F w) (mask F (((w.setCell ⟨b,0,none⟩ y0).setCell ⟨b,1,none⟩ y1).setCell ⟨b,2,none⟩ y2)):=
 fun a u hu=>aM h a u (aM h a u (aM h a u hu))
def FM (z n a b q:Nat):Prop:=¬q=z∧(q<n∨(a≤q∧q<b))
theorem MI {V W u:World} {n a:Nat} {F:Nat→Prop} {x0 x1 x2 x3 x4 x5 x6 x7 x8 x9 y0 y1 y2 y3 y4 y5 y6 y7 y8 y9:Value} (hu:cQ W a y0 y1 y2 y3 y4 y5 y6 y7 y8 y9=u) (hA:aK W a [x0,x1,x2,x3,x4,x5,x6,x7,x8,x9]) (hU:Below n V W) (hn:n≤a) (hF:¬F a) :
 aK u a [y0,y1,y2,y3,y4,y5,y6,y7,y8,y9]∧W.grownBy u (some a)∧Below n V u∧dI (mask F W) (mask F u):=by
 subst hu;exact ⟨hA.cQ ..,iB ..,dZ hU hn ..,cS hF _ _ _ _ _ _ _ _ _ _⟩
theorem Py {V W u:World} {n a:Nat} {F:Nat→Prop} {y0 y1 y2:Value} (hu:((W.setCell ⟨a,0,none⟩ y0).setCell ⟨a,1,none⟩ y1).setCell ⟨a,2,none⟩ y2=u) (hU:Below n V W) (hn:n≤a) (hF:¬F a) :
 W.grownBy u (some a)∧Below n V u∧dI (mask F W) (mask F u):=by
 subst hu;exact ⟨o8 ..,tQ hU hn ..,yL hF _ _ _⟩
theorem WK (w:World):Calls prog 24 #[] w (aaF w):=by
 obtain ⟨W1,hW1⟩:=aG (w.alloc (.cells #[.slice none 0 0,.slice none 0 0,.int .i64 0,.slice none 0 0,.bool false,.int .i64 0,.int .i64 0,.int .i64 0,.slice none 0 0,.slice none 0 0] 30));have HZ1:=aa (show aK W1 w.heap.size gZ by rw[← hW1];exact aK.new w gZ 30);have aY:=aa (show Bw w W1 by rw[← hW1];exact ar);have HNW:=aa (Px 42 (by unfold aQ;omega) W1 (fun q=>¬q=w.heap.size) (fun q hq=>by have:=HZ1.lt;omega));rw[afB] at HNW;have ee:=aa hW1;clear hW1;go_enter func24,ntmps24;go_upto_region 1 with fail;rw[ee.o];clear ee;unfold Aj ew at HNW;go_upto_region 2 with (go_at_call 60;(refine HNW.o.mono ?_);rintro e w2 ⟨vk,vc,vp,rfl,hd,hb⟩;obtain ⟨pk,ck,rfl,_,_⟩:=hd.kept.slice;obtain ⟨pc,cc,rfl,_,_⟩:=hd.cache.slice;obtain ⟨pp,cp,rfl,_,_⟩:=hd.keep.slice;have CD:=aa hd;have bS:=bh aY hb;have xN:=aa (HZ1.o.below hb);clear hd hb);obtain ⟨W3,hW3⟩:=aG (w2.alloc (.cells #[.slice pk cT.kept.length ck,.slice pc cT.cache.length cc,.int .i64 cT.ah,.slice pp cT.keep.length cp,.bool cT.dead] 26));have kD:=aa (show aK W3 w2.heap.size [.slice pk cT.kept.length ck,.slice pc cT.cache.length cc,.int .i64 cT.ah,.slice pp cT.keep.length cp,.bool cT.dead] by rw[← hW3];exact aK.new w2 [.slice pk cT.kept.length ck,.slice pc cT.cache.length cc,.int .i64 cT.ah,.slice pp cT.keep.length cp,.bool cT.dead] 26);have hb3:Bw w2 W3:=by rw[← hW3];exact ar
 have dF:=bh bS hb3;have sq:=aa (xN.below hb3);have Uu:=aa (CD.keeps (aC hb3 fun _ _ h=>h));rw[hW3];clear hW3 hb3;go_cut [3] from 12 to 14 (fun v3 wx=>∃(b3:Nat) (tp:Option Addr) (tc:Nat),v3=.pointer (some ⟨b3,0,none⟩)∧aK wx b3 [.slice pk cT.kept.length ck,.slice pc cT.cache.length cc,.int .i64 cT.ah,.slice pp cT.keep.length cp,.bool cT.dead,.int .i64 4,.int .i64 1,.int .i64 0,.slice none 0 0,.slice tp 2 tc]∧dH (mask (fun q=>¬q=w.heap.size) wx) (.slice tp 2 tc) [[],[]]∧Bw W3 wx)
 case first=>
  refine wp_region_held_drew (S:=fun w'=>Bw W3 w') (by kernel_rfl) aH.drew (fun hHeld=>?_);obtain ⟨u,hu⟩:∃x,W3.drew=x:=⟨_,rfl⟩
  have HU:=aa (show Bw W3 u by rw[← hu];exact aH.drew);have hzl:=sq.lt;rw[hu] at hHeld ⊢;clear hu;refine cB 0 12 (.agg #[.slice pk cT.kept.length ck,.slice pc cT.cache.length cc,.int .i64 cT.ah,.slice pp cT.keep.length cp,.bool cT.dead]) rfl rfl hHeld ?_ (fun w' hSw=>by obtain ⟨x0,x1,x2,x3,x4⟩:=(kD.below hSw).five;go_simp);simp only[aD]
  repeat' first
   |refine rgN
   |(refine yo 1 rfl (fun K hK=>?_) ?_;(
    obtain ⟨c0,hc⟩:∃x,u.heap.size=x:=⟨_,rfl⟩
    have LC:=aa (show W3.heap.size≤c0 by rw[← hc];exact HU.size)
    try have NE:=aa (show ¬c0=a by rw[← hc];exact A.ne)
    obtain ⟨u,jJ,NV,hb,hl⟩:=af0 u;rw[hc] at jJ NV hl;go_simp;have TB:=aa (NV (fun q=>q=c0) rfl);have LT:=aa hl
    try replace A:=aa (A.below hb)
    replace HU:=bh HU hb;clear jJ NV hb hc hl;refine hK.out _ _ HU (fun hHeld=>?_);clear hK K;refine cB 2 14 (.agg #[.slice pk cT.kept.length ck,.slice pc cT.cache.length cc,.int .i64 cT.ah,.slice pp cT.keep.length cp,.bool cT.dead,.int .i64 4,.int .i64 1,.int .i64 0,.slice none 0 0,.slice (some ⟨c0,0,none⟩) 2 2]) rfl rfl hHeld ?_;simp only[aD]))
   |(refine yo 3 rfl (fun K hK=>?_) ?_;(
    go_simp;obtain ⟨a,ha⟩:∃x,u.heap.size=x:=⟨_,rfl⟩
    obtain ⟨u,hu⟩:∃x,u.alloc (.cells #[.slice none 0 0,.slice none 0 0,.int .i64 0,.slice none 0 0,.bool false,.int .i64 0,.int .i64 0,.int .i64 0,.slice none 0 0,.slice none 0 0] 30)=x:=⟨_,rfl⟩
    obtain ⟨hn,hb⟩:=jX (cs:=[.slice none 0 0,.slice none 0 0,.int .i64 0,.slice none 0 0,.bool false,.int .i64 0,.int .i64 0,.int .i64 0,.slice none 0 0,.slice none 0 0]) ha hu;have A:=aa hn;have LA:=aa (show W3.heap.size≤a by rw[← ha];exact HU.size)
    try have NE:=aa (show ¬c0=a by have:=LT.o;omega)
    try replace TB:=aa (TB.keep (aC hb fun _ _ h=>h))
    replace HU:=bh HU hb;rw[hu,ha];clear hn hb hu ha;refine hK.out _ _ HU (fun hHeld=>?_);clear hK K))
   |(refine yo 4 rfl (fun K hK=>?_) ?_;(
    obtain ⟨n0,n1,n2,n3,n4,n5,n6,n7,n8,n9⟩:=A.ten;obtain ⟨f0,f1,f2,f3,f4,f5,f6,f7,f8,f9⟩:=A.eP;go_simp;obtain ⟨u,hu⟩:∃x,cQ u a (.slice pk cT.kept.length ck) (.slice pc cT.cache.length cc) (.int .i64 cT.ah) (.slice pp cT.keep.length cp) (.bool cT.dead) (.int .i64 4) (.int .i64 1) (.int .i64 0) (.slice none 0 0) (.slice (some ⟨c0,0,none⟩) 2 2)=x:=⟨_,rfl⟩
    obtain ⟨h1,h2,h3,h4⟩:=MI (F:=fun q=>q=c0) hu A HU LA (fun h=>NE h.symm);unfold cQ at hu;rw[hu];refine hK.out _ _ h3 (fun hHeld=>?_);clear hK K hHeld hu n0 n1 n2 n3 n4 n5 n6 n7 n8 n9 f0 f1 f2 f3 f4 f5 f6 f7 f8 f9;refine wpAnyH_done (by kernel_rfl) ?_ _;go_wp2_with fail;go_meet;exact ⟨a,_,_,rfl,h1,(TB.keep h4).keep (aV fun q h=>by have:q=c0:=h;have:=LC.o;omega),h3⟩))
   |refine rgR ?_
 case rest=>
  obtain ⟨b3,tp,tc,rfl,hx3,NV,fI⟩:=hcut;have nU:=aa (show br (mask (fun q=>¬q=w.heap.size) wc) xZ ⟨.slice pk cT.kept.length ck,.slice pc cT.cache.length cc,.slice pp cT.keep.length cp,.slice none 0 0,.slice tp 2 tc⟩ from ⟨Uu.keeps (aC fI fun _ _ h=>h),⟨none,0,rfl,aT,by unfold maxLen;omega,fun j d hd=>by simp[xZ] at hd⟩,NV,by show aQ 4;unfold aQ;omega,by show aQ 1;unfold aQ;omega,by show aQ 0;unfold aQ;omega⟩);have sB:=bh dF fI;have HZX:=aa (sq.below fI);have hzl:=HZX.lt;have Mm:=aa (Lq _ wc (fun q=>¬q=w.heap.size) (fun q hq=>by omega) nU);simp only at Mm;obtain ⟨x0,x1,x2,x3,x4,x5,x6,x7,x8,x9⟩:=hx3.ten;clear hx3 NV fI;go_upto_region 4 with (go_at_call 61;(refine Mm.o.mono ?_);rintro e w5 ⟨t1,v5,hg1,rfl,KS,aR⟩;obtain ⟨qk,mk,jk,qc,mc,jc,qp,mp,jp,qv,mv,jv,qt,mt,jt,rfl⟩:=KS.sl;have LV:=aa hg1;have HP5:=aa KS;have bp:=bh sB aR;have rQ:=aa (HZX.o.below aR);clear hg1 KS aR;simp only[]);obtain ⟨V6,hV6⟩:∃x,(w5.alloc (.cells #[.slice qk mk jk,.slice qc mc jc,.int .i64 cT.ah,.slice qp mp jp,.bool cT.dead,.int .i64 4,.int .i64 1,.int .i64 0,.slice qv mv jv,.slice qt mt jt] 30)).alloc (.cells #[.int .i64 0,.string eh,.int .i64 0] 107)=x:=⟨_,rfl⟩
  have Sq:=yH w5 [.slice qk mk jk,.slice qc mc jc,.int .i64 cT.ah,.slice qp mp jp,.bool cT.dead,.int .i64 4,.int .i64 1,.int .i64 0,.slice qv mv jv,.slice qt mt jt] [.int .i64 0,.string eh,.int .i64 0] 30 107;rw[hV6] at Sq;have kS:=aa Sq.1;have cU:=aa (ak bp Sq.2.2);have Hb:=aa (rQ.below Sq.2.2);have Zv:=aa (HP5.keep (aC Sq.2.2 fun _ _ h=>h));rw[hV6];clear hV6 Sq x0 x1 x2 x3 x4 x5 x6 x7 x8 x9;have asX:=Hb.lt;go_cut [6] from 5 to 29 (fun v6 wx=>∃(b6:Nat) (t:ag) (a1:Option Addr) (a2 a3:Nat) (b1:Option Addr) (b2 b3:Nat) (c1:Option Addr) (c2 c3:Nat) (d1:Option Addr) (d2 d3:Nat) (e1:Option Addr) (e2 e3:Nat),v6=.pointer (some ⟨b6,0,none⟩)∧Grown [(2,49)] t∧aK wx b6 [.slice a1 a2 a3,.slice b1 b2 b3,.int .i64 dm.ah,.slice c1 c2 c3,.bool dm.dead,.int .i64 4,.int .i64 1,.int .i64 0,.slice d1 d2 d3,.slice e1 e2 e3]∧br (mask (fun q=>¬q=w.heap.size) wx) (eB t) ⟨.slice a1 a2 a3,.slice b1 b2 b3,.slice c1 c2 c3,.slice d1 d2 d3,.slice e1 e2 e3⟩∧Bw V6 wx)
  case first=>
   refine wp_region_held_drew (S:=fun w'=>Bw V6 w') (by kernel_rfl) aH.drew (fun hHeld=>?_);obtain ⟨u,hu⟩:∃x,V6.drew=x:=⟨_,rfl⟩
   have HU:=aa (show Bw V6 u by rw[← hu];exact aH.drew);rw[hu] at hHeld ⊢;clear hu;refine cB 0 22 (.agg #[.slice qk mk jk,.slice qc mc jc,.int .i64 cT.ah,.slice qp mp jp,.bool cT.dead,.int .i64 4,.int .i64 1,.int .i64 0,.slice qv mv jv,.slice qt mt jt]) rfl rfl hHeld ?_ (fun w' hSw=>by obtain ⟨x0,x1,x2,x3,x4,x5,x6,x7,x8,x9⟩:=(kS.below hSw).ten;go_simp);simp only[aD]
   repeat' first
    |refine rgN
    |(refine wpAnyH_done (by decide +kernel) ?_ _;(
     clear hHeld;go_wp2_with fail;go_meet;exact ⟨a,t,_,_,_,_,_,_,_,_,_,_,_,_,_,_,_,rfl,G,A,D.keep (aV fun q h=>h.1),HU⟩))
    |refine rgR ?_
    |(refine yo 1 rfl (fun K hK=>?_) ?_;(
     obtain ⟨u,jJ,hb,hcv⟩:=WJ u;go_simp;have V:=aa hcv;have M:=aa (Below.refl u.heap.size u)
     try replace A:=aa (A.below hb)
     try replace B:=aa (B.below hb)
     replace HU:=bh HU hb;clear jJ hb hcv;refine hK.out _ _ HU (fun hHeld=>?_);clear hK K))
    |(refine yo 2 rfl (fun K hK=>?_) ?_;(
     have hcv:=V.o _ M.o;go_simp;clear hcv V M;refine hK.out _ _ HU (fun hHeld=>?_);clear hK K;refine cB 3 25 (.agg #[.int .i64 4,.int .i64 1,.int .i64 0,.int .i64 2,.int .i64 0,.string ⟨mF.toArray⟩]) rfl rfl hHeld ?_;simp only[aD]))
    |(refine yo 4 rfl (fun K hK=>?_) ?_;(
     obtain ⟨c0,hc⟩:∃x,u.heap.size=x:=⟨_,rfl⟩
     have hsz:=HU.size;have HC:=Pv LV _ u (fun q=>¬q=w.heap.size∧(q<V6.heap.size∨c0≤q)) (fun q hq=>⟨by omega,.inr (by omega)⟩) (Zv.keep (aC HU fun q hq h=>⟨h,.inl hq⟩));simp only at HC;replace HC:=aa HC
     try have OA:=aa (show a<c0 by rw[← hc];exact A.lt)
     try have OB:=aa (show b<c0 by rw[← hc];exact B.lt)
     clear hsz hc;go_simp;refine HC.mono ?_;clear HC;rintro e u ⟨t,v,hg,rfl,hp,hb⟩;obtain ⟨rk,nk,lk,rc,nc,lc,rp,np,lp,rv,nv,lv,rt,nt,lt,rfl⟩:=hp.sl;obtain ⟨c1,hc⟩:∃x,u.heap.size=x:=⟨_,rfl⟩
     have G:=aa hg;have D:=aa (show br (mask (FM w.heap.size V6.heap.size c0 c1) u) (eB t) _ from hp.keep (aC (Below.refl u.heap.size u) fun q hq h=>⟨h.1,h.2.imp id fun h=>⟨h,by omega⟩⟩));have C:=aa (Nat.le_of_eq hc.symm)
     try replace A:=aa (A.below hb)
     try replace B:=aa (B.below hb)
     replace HU:=bh HU hb;clear hb hp hg hc;refine hK.out _ _ HU (fun hHeld=>?_);clear hK K;refine cB 5 21 (.tuple #[.agg #[.slice rk nk lk,.slice rc nc lc,.int .i64 dm.ah,.slice rp np lp,.bool dm.dead,.int .i64 4,.int .i64 1,.int .i64 0,.slice rv nv lv,.slice rt nt lt],.agg #[.int .i64 0,.string eh,.int .i64 0]]) rfl rfl hHeld ?_;simp only[aD];refine cB 6 27 (.agg #[.slice rk nk lk,.slice rc nc lc,.int .i64 dm.ah,.slice rp np lp,.bool dm.dead,.int .i64 4,.int .i64 1,.int .i64 0,.slice rv nv lv,.slice rt nt lt]) rfl rfl hHeld ?_;simp only[aD];refine cB 7 28 (.agg #[.int .i64 0,.string eh,.int .i64 0]) rfl rfl hHeld ?_;simp only[aD]))
    |(refine yo 8 rfl (fun K hK=>?_) ?_;(
     go_simp;obtain ⟨a,ha⟩:∃x,u.heap.size=x:=⟨_,rfl⟩
     obtain ⟨u,hu⟩:∃x,u.alloc (.cells #[.slice none 0 0,.slice none 0 0,.int .i64 0,.slice none 0 0,.bool false,.int .i64 0,.int .i64 0,.int .i64 0,.slice none 0 0,.slice none 0 0] 30)=x:=⟨_,rfl⟩
     obtain ⟨hn,hb⟩:=jX (cs:=[.slice none 0 0,.slice none 0 0,.int .i64 0,.slice none 0 0,.bool false,.int .i64 0,.int .i64 0,.int .i64 0,.slice none 0 0,.slice none 0 0]) ha hu;have A:=aa hn;have LA:=aa (show V6.heap.size≤a by rw[← ha];exact HU.size)
     try have NE:=aa (show ¬a=b by rw[← ha];exact B.ne)
     try have OA:=aa (show c1≤a by rw[← ha];exact C)
     try replace C:=aa (Nat.le_trans C hb.size)
     try replace B:=aa (B.below hb)
     try replace D:=aa (D.keep (aC hb fun _ _ h=>h))
     try replace M:=bh M hb
     replace HU:=bh HU hb;rw[hu,ha];clear hn hb hu ha;refine hK.out _ _ HU (fun hHeld=>?_);clear hK K))
    |(refine yo 9 rfl (fun K hK=>?_) ?_;(
     go_simp;obtain ⟨b,ha⟩:∃x,u.heap.size=x:=⟨_,rfl⟩
     obtain ⟨u,hu⟩:∃x,u.alloc (.cells #[.int .i64 0,.string ⟨#[]⟩,.int .i64 0] 107)=x:=⟨_,rfl⟩
     obtain ⟨hn,hb⟩:=jX (cs:=[.int .i64 0,.string ⟨#[]⟩,.int .i64 0]) ha hu;have B:=aa hn;have LB:=aa (show V6.heap.size≤b by rw[← ha];exact HU.size)
     try have NE:=aa (show ¬b=a by rw[← ha];exact A.ne)
     try have OB:=aa (show c1≤b by rw[← ha];exact C)
     try replace C:=aa (Nat.le_trans C hb.size)
     try replace A:=aa (A.below hb)
     try replace D:=aa (D.keep (aC hb fun _ _ h=>h))
     try replace M:=bh M hb
     replace HU:=bh HU hb;rw[hu,ha];clear hn hb hu ha;refine hK.out _ _ HU (fun hHeld=>?_);clear hK K))
    |(refine yo 10 rfl (fun K hK=>?_) ?_;(
     obtain ⟨n0,n1,n2,n3,n4,n5,n6,n7,n8,n9⟩:=A.ten;obtain ⟨f0,f1,f2,f3,f4,f5,f6,f7,f8,f9⟩:=A.eP;go_simp;obtain ⟨u,hu⟩:∃x,cQ u a (.slice rk nk lk) (.slice rc nc lc) (.int .i64 dm.ah) (.slice rp np lp) (.bool dm.dead) (.int .i64 4) (.int .i64 1) (.int .i64 0) (.slice rv nv lv) (.slice rt nt lt)=x:=⟨_,rfl⟩
     obtain ⟨h1,h2,h3,h4⟩:=MI (F:=FM w.heap.size V6.heap.size c0 c1) hu A HU LA (fun h=>by have:=OA.o;have:=LA.o;unfold FM at h;omega);replace B:=aa (B.grown h2 (fun e=>by have:=Option.some.inj e;have:=NE.o;omega));replace A:=aa h1;replace HU:=aa h3;replace D:=aa (D.keep h4);clear h1 h2 h3 h4 n0 n1 n2 n3 n4 n5 n6 n7 n8 n9 f0 f1 f2 f3 f4 f5 f6 f7 f8 f9;unfold cQ at hu;rw[hu];clear hu;refine hK.out _ _ HU (fun hHeld=>?_);clear hK K))
    |(refine yo 11 rfl (fun K hK=>?_) ?_;(
     have n0:=B.cell (j:=0) rfl;have n1:=B.cell (j:=1) rfl;have n2:=B.cell (j:=2) rfl;obtain ⟨f0,f1,f2⟩:=B.R4;go_simp;obtain ⟨u,hu⟩:∃x,((u.setCell ⟨b,0,none⟩ (.int .i64 0)).setCell ⟨b,1,none⟩ (.string eh)).setCell ⟨b,2,none⟩ (.int .i64 0)=x:=⟨_,rfl⟩
     obtain ⟨h2,h3,h4⟩:=Py (F:=FM w.heap.size V6.heap.size c0 c1) hu HU LB (fun h=>by have:=OB.o;have:=LB.o;unfold FM at h;omega);replace A:=aa (A.grown h2 (fun e=>by have:=Option.some.inj e;have:=NE.o;omega));replace HU:=aa h3;replace D:=aa (D.keep h4);clear h2 h3 h4 n0 n1 n2 f0 f1 f2;rw[hu];clear hu;refine hK.out _ _ HU (fun hHeld=>?_);clear hK K))
  case rest=>obtain ⟨b6,t,a1,a2,a3,b1,b2,b3,c1,c2,c3,d1,d2,d3,e1,e2,e3,rfl,hg,hx,hp,hb⟩:=hcut;obtain ⟨y0,y1,y2,y3,y4,y5,y6,y7,y8,y9⟩:=hx.ten;have hz:=Hb.below hb;unfold gZ at hz;obtain ⟨z0,z1,z2,z3,z4,z5,z6,z7,z8,z9⟩:=hz.ten;obtain ⟨f0,f1,f2,f3,f4,f5,f6,f7,f8,f9⟩:=hz.eP;have Ew:=aa (hz.cQ (.slice a1 a2 a3) (.slice b1 b2 b3) (.int .i64 dm.ah) (.slice c1 c2 c3) (.bool dm.dead) (.int .i64 4) (.int .i64 1) (.int .i64 0) (.slice d1 d2 d3) (.slice e1 e2 e3));have VG:=aa ((hp.keep (cS (b:=w.heap.size) (fun h=>h rfl) (.slice a1 a2 a3) (.slice b1 b2 b3) (.int .i64 dm.ah) (.slice c1 c2 c3) (.bool dm.dead) (.int .i64 4) (.int .i64 1) (.int .i64 0) (.slice d1 d2 d3) (.slice e1 e2 e3))).keep df);have fw:=aa (dZ (ak cU hb) aT (.slice a1 a2 a3) (.slice b1 b2 b3) (.int .i64 dm.ah) (.slice c1 c2 c3) (.bool dm.dead) (.int .i64 4) (.int .i64 1) (.int .i64 0) (.slice d1 d2 d3) (.slice e1 e2 e3));have HG:=aa hg;clear hg hz hp hb hx;unfold cQ at Ew VG fw;obtain ⟨g0,g1,g2,g3,g4,g5,g6,g7,g8,g9⟩:=Ew.ten;go_wp2_with fail;refine bodyPost_ret (v:=.agg #[.slice a1 a2 a3,.slice b1 b2 b3,.int .i64 dm.ah,.slice c1 c2 c3,.bool dm.dead,.int .i64 4,.int .i64 1,.int .i64 0,.slice d1 d2 d3,.slice e1 e2 e3]) (by simp[results,results24,go_sem,g0,g1,g2,g3,g4,g5,g6,g7,g8,g9]) rfl ?_;exact ⟨⟨_,_,_,_,_⟩,t,HG,rfl,VG,fw⟩
end Go.Proofs.YtbigkioechkngaaGreat
