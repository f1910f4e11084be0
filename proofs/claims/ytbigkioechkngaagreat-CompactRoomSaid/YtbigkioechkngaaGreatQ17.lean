/- The proof, part 18. -/
import Derived.Test.YtbigkioechkngaaGreatQ11
set_option maxRecDepth 100000
set_option maxHeartbeats 8000000
namespace Go.Proofs.YtbigkioechkngaaGreat
open Go.RowKit
theorem Dp {j n:Nat} (h:j≤n) (h2:n≤1000000):wrap64 ((j:Int)+1)=(j:Int)+1:=by unfold wrap64;omega
theorem wP {α:Type} {p:List α} {k:Nat} {s:α} (f:α→Int) (h:p[k]?=some s):(p.take (k+1)).map f=(p.take k).map f++[f s]:=by obtain ⟨hk,rfl⟩:=List.getElem?_eq_some_iff.1 h;rw[List.take_succ_eq_append_getElem hk,List.map_append];rfl
def aet (w:World) (q:List ag) (xs:List Value) (np:Nat) (i:Value) (wr:World):Prop:=
 ∃(k:Nat) (kv cv:Value),k≤np∧i=.int .i64 k∧cN wr w.heap.size (.slice none 0 0) (.slice none 0 0) (.slice none 0 0)∧cN wr (w.heap.size+1) kv (.slice none 0 0) cv∧wr.ownsRow (w.heap.size+2) 3 1 kv k (bB ((q.take k).map sP))∧wr.ownsRow (w.heap.size+2) 73 3 cv k (xs.take (k*3))∧Bw w wr
def Wm (w:World) (q:List ag) (B0 D:Nat) (e:Ending) (w':World):Prop:=
 ∃a b c,e=.returned (.agg #[a,b,c])∧(∀v:Value,(∀k,v.ownBlock=some k→D≤k∧k<w.heap.size)→bw (mask (ox B0 v w') w') (jG q) a b c)∧Bw w w'
theorem AR (q:List ag) (B0 D g o c:Nat) (w:World) (hq:1≤q.length) (B3:q.length≤1000000) (h0:B0≤D) (hD:D≤w.heap.size) (hk:∀t∈q,1≤t.keys.length) (h:∀j t,q[j]?=some t→qx (mask (MB B0 D w) w) (some ⟨g,o,none⟩) j t) :
 Calls Tryz.prog 98 #[.slice (some ⟨g,o,none⟩) q.length c] w (Wm w q B0 D):=by
 obtain ⟨np,VJ⟩:∃n,q.length=n:=⟨_,rfl⟩
 rw[VJ] at hq B3;obtain ⟨xs,jq,hxs⟩:=RG h;rw[VJ] at jq;rw[VJ];have om:=aa VJ;have HQ1:=aa hq;have VK:=aa B3;have kg:=aa h;have Wn:=aa jq;have HXS:=aa hxs;have HQK:=aa hk;have fL:=aa (And.intro h0 hD);have hlc:(np:Int)≤9223372036854775807:=by omega
 clear VJ hq B3 h jq hxs hk h0 hD;go_enter Tryz.func98,Tryz.ntmps98;go_wp2_with fail;go_loopw [4] (fun i wr=>aet w q xs np i wr) (fun i _=>np-(intOf i).toNat)
 case atStart=>
  refine ⟨0,_,_,dQ,rfl,?_,?_,World.ownsRow_nil _ _ _ _,by rw[Nat.zero_mul,List.take_zero];exact World.ownsRow_nil _ _ _ _,(aq).alloc (by simp) _⟩
  ·exact (cN.new w _ _ _).below (aq)
  ·have:=cN.new (w.alloc (.cells #[.slice none 0 0,.slice none 0 0,.slice none 0 0] 73)) (.slice none 0 0) (.slice none 0 0) (.slice none 0 0)
   simpa using this
 case round=>
  obtain ⟨j,kv,cv,hj,rfl,hres,fN,H7,G3,cW⟩:=hrel;obtain ⟨pk,nk,ck,rfl⟩:=jF H7;obtain ⟨pc,nc,cc,rfl⟩:=jF G3;have sO:=aa fN;have JX:=aa H7;have HRC:=aa G3;have cQ:=aa cW;have NR:=aa hres;by_cases hlt3:j<np
  case neg=>
   obtain rfl:j=np:=by omega
   have Rv:decide ((j:Int)<(j:Int))=false:=(by simp);obtain ⟨gr,cr5,hcv⟩:∃gr cr5,(Value.slice pc nc cc)=.slice (some ⟨gr,0,none⟩) j cr5:=by
    rcases aK G3 with ⟨_,h,_⟩|⟨g',c',h⟩
    ·have:=HQ1.o;omega
    ·exact ⟨_,_,h⟩
   injection hcv with e1 e2 e3;subst e1;subst e2;subst e3;obtain ⟨x0,x1,x2⟩:=fN.cells;obtain ⟨d0,d1,d2⟩:=hres.cells;have f0:=hres.frozen 0;have f1:=hres.frozen 1;have f2:=hres.frozen 2;have aev:=hres.lt;clear fN H7 G3 cW hres;have HT:=aa (show q.take nc=q from List.take_of_length_le (by rw[om.o];exact aT));have HT2:=aa (show xs.take (nc*3)=xs from List.take_of_length_le (by rw[Wn.o.1];exact aT));go_wp2_with fail;have hg:wr.grownBy (((wr.setCell ⟨w.heap.size,0,none⟩ (.slice pk nk ck)).setCell ⟨w.heap.size,1,none⟩ (.slice none 0 0)).setCell ⟨w.heap.size,2,none⟩ (.slice (some ⟨gr,0,none⟩) nc cc)) (some w.heap.size):=((aw wr w.heap.size 0 _).trans (aw _ w.heap.size 1 _)).trans (aw _ w.heap.size 2 _);have ZN:Bw w (((wr.setCell ⟨w.heap.size,0,none⟩ (.slice pk nk ck)).setCell ⟨w.heap.size,1,none⟩ (.slice none 0 0)).setCell ⟨w.heap.size,2,none⟩ (.slice (some ⟨gr,0,none⟩) nc cc)):=eP (eP (eP cQ 0 _) 1 _) 2 _;have SM:=eT (j:=2) (u:=.slice (some ⟨gr,0,none⟩) nc cc) (eT (j:=1) (u:=.slice none 0 0) (eT (j:=0) (u:=.slice pk nk ck) JX (show w.heap.size<w.heap.size+2 by omega)) (show w.heap.size<w.heap.size+2 by omega)) (show w.heap.size<w.heap.size+2 by omega);have hcF:=eT (j:=2) (u:=.slice (some ⟨gr,0,none⟩) nc cc) (eT (j:=1) (u:=.slice none 0 0) (eT (j:=0) (u:=.slice pk nk ck) HRC (show w.heap.size<w.heap.size+2 by omega)) (show w.heap.size<w.heap.size+2 by omega)) (show w.heap.size<w.heap.size+2 by omega);obtain ⟨k0,k1,k2⟩:=(((NR.qI (.slice pk nk ck)).zO (.slice none 0 0)).yQ (.slice (some ⟨gr,0,none⟩) nc cc)).cells;obtain ⟨WF,hWF⟩:∃W,((wr.setCell ⟨w.heap.size,0,none⟩ (.slice pk nk ck)).setCell ⟨w.heap.size,1,none⟩ (.slice none 0 0)).setCell ⟨w.heap.size,2,none⟩ (.slice (some ⟨gr,0,none⟩) nc cc)=W:=⟨_,rfl⟩
   rw[hWF] at hg ZN SM hcF k0 k1 k2 ⊢;refine bodyPost_ret (v:=.agg #[.slice pk nk ck,.slice none 0 0,.slice (some ⟨gr,0,none⟩) nc cc]) (by simp[results,Tryz.results98,go_sem,k0,k1,k2]) rfl ?_;refine ⟨_,_,_,rfl,fun v hv=>?_,ZN⟩;rw[HT.o] at SM;rw[HT2.o] at hcF;have:=VQ (W:=WF) (B:=w.heap.size+2) (B0:=B0) (D:=D) (Dc:=w.heap.size+2) (kv:=.slice pk nk ck) (gr:=gr) (cr:=cc) (q:=q) (xs:=xs) (by rw[om.o];exact HQ1) (by rw[om.o];exact SM)
    (fun t ht=>by
     obtain ⟨i,hi⟩:=List.getElem?_of_mem ht;obtain ⟨_,_,_,_,_,_,_,_,_,hn⟩:=kg.o i t hi;obtain ⟨_,_,_,_,_,_,h,_⟩:=MD hn (HQK t ht);exact h)
    (by have:=fL.o;omega) (by have:=fL.o;omega) (v:=v) (fun b hb=>⟨(hv b hb).1,by have:=(hv b hb).2;omega⟩) (by have:=fL.o;omega) aT fL.1 (by rw[om.o];exact hcF)
    (fun i t hi=>by
     obtain ⟨x,y,z,e1,e2,e3,e4⟩:=HXS.o i t hi;exact ⟨x,y,z,e1,e2,e3,e4.keep (bI fun _ _ hf hu=>⟨⟨⟨hf.1.1,oY hf.1.2 ZN⟩,hf.2⟩,ae ZN hu⟩)⟩)
   rw[om.o] at this;exact this
  case pos=>
   have FI:(j:Int)<(np:Int):=(by omega);have ZA:=Dp hj VK.o;obtain ⟨s,hs⟩:=fy (l:=q) (k:=j) (by rw[om.o];exact hlt3);obtain ⟨g9,o9,x,y,z,e9,c0,c1,c2,hn9⟩:=kg.o j s hs;injection e9 with e9;injection e9 with e9 e10;subst e9;subst e10;obtain ⟨gk2,ok2,nx,cx,rfl,hx1,_,hx3⟩:=MD hn9 (HQK s (List.mem_of_getElem? hs));obtain ⟨_,_,_,py,ny,cy,pz,nz,cz,_,rfl,rfl⟩:=bc hn9;obtain ⟨u0,u1,u2,t0,t1,t2,_⟩:=HXS.o j s hs;have v0:=Wn.2.2.2 _ rfl _ _ t0;have v1:=Wn.2.2.2 _ rfl _ _ t1;have v2:=Wn.2.2.2 _ rfl _ _ t2;rw[nI] at v0 v1 v2;rw[Option.some.inj (v0.symm.trans (ar.1 c0).2)] at t0;rw[Option.some.inj (v1.symm.trans (ar.1 c1).2)] at t1;rw[Option.some.inj (v2.symm.trans (ar.1 c2).2)] at t2;have UH:=aa (adR t0 t1 t2);clear v0 v1 v2 t0 t1 t2;have r0:=ae cQ (ar.1 c0).2;have r1:=ae cQ (ar.1 c1).2;have r2:=ae cQ (ar.1 c2).2;have r3:=ae cQ (ar.1 hx3).2;have HS:=aa hs;obtain ⟨hd,hhd⟩:∃h,sP s=h:=⟨_,rfl⟩
   rw[hhd] at r3;have HHD:=aa hhd;have hnx:0<nx:=hx1;have HR:=aa (And.intro r0 (And.intro r1 r2));obtain ⟨x0,x1,x2⟩:=fN.cells;have x0b:(wr.alloc (.cells #[.int .i64 hd] 3)).cell? ⟨w.heap.size+1,0,none⟩=some (.slice pk nk ck):=ae (aq) x0;obtain ⟨g1,c8,w7,ra1,bx1,Wo,ZO,ro2,ZP,kc1⟩:=N3 (W:=wr.drew) hd fN (World.ownsRow.drew H7) (World.ownsRow.drew G3) (Nat.le_trans hj VK);have f0:=bx1.frozen 0;have d0:=bx1.cells.1;obtain ⟨w8,Ye⟩:∃W,w7.setCell ⟨w.heap.size+1,0,none⟩ (.slice (some ⟨g1,0,none⟩) (j+1) c8)=W:=⟨_,rfl⟩
   rw[Ye] at Wo ZO ro2 ZP;obtain ⟨g2,c9,w9,ra2,ZQ,bx4,ro3,ro4,bl2⟩:=RX (W:=w8.drew) (pa:=some ⟨gk2,ok2,none⟩) (na:=nx) (ca:=cx) (pb:=py) (nb:=ny) (cb:=cy) (pc:=pz) (nc:=nz) (cc:=cz) Wo (World.ownsRow.drew ZO) (World.ownsRow.drew ro2) (Nat.le_trans hj VK);have vX:=aa (show Below (w.heap.size+1) wr w8 from aH.drew.trans ZP);have gQ:=aa (show Below (w.heap.size+1) w8 _ from aH.drew.trans bl2);have GY:=aa ra1;have ZR:=aa ra2;have jQ:=aa bx4;have qD:=aa ro3;have pP:=aa ro4;have mW:=aa (show w.heap.size+1<wr.heap.size from fN.lt);have JQ:=aa (show ∀a u,w.cell? a=some u→w8.cell? a=some u from fun a u hu=>by
    have hlt:=World.block_lt_of_cell? _ _ hu;exact (vX.cell (by omega)).trans (ae cQ hu))
   obtain ⟨_,_,y2⟩:=Wo.cells;obtain ⟨_,_,d2⟩:=ZQ.cells;have f2:=ZQ.frozen 2;have y2b:(w8.alloc (.cells #[.slice (some ⟨gk2,ok2,none⟩) nx cx,.slice py ny cy,.slice pz nz cz] 73)).cell? ⟨w.heap.size+1,2,none⟩=some (.slice pc nc cc):=ae (aq) y2;have HY:=aa (And.intro y2 (And.intro d2 (And.intro f2 y2b)));have Gi:=aa (And.intro (JQ.o _ _ (ar.1 c0).2) (And.intro (JQ.o _ _ (ar.1 c1).2) (JQ _ _ (ar.1 c2).2)));clear ra1 ra2 bx1 Wo ZQ bx4 ZO ro2 ro3 ro4 ZP bl2 kc1 fN H7 G3 cW hs c0 c1 c2 hn9 hx3 hhd hx1 y2 d2 f2 hres r1 r2 y2b;go_upto_region 5 with fail;have HW8:=aa Ye;clear Ye;go_region_law (refine bE rfl _ _ _ rfl rfl rfl GY.o ?_)
   all_goals
    rw[HW8.o];clear r0 r3 x0 x1 x2 f0 d0 hnx x0b;obtain ⟨r0,r1,r2⟩:=Gi.o;obtain ⟨y2,d2,f2,y2b⟩:=HY.o;go_upto_region 6 with fail;go_region_law (refine bE rfl _ _ _ rfl rfl rfl ZR.o ?_)
    all_goals
     clear r0 r1 r2 y2 d2 f2 y2b;go_wp2_with fail;go_roundw
     case rel=>
      refine ⟨j+1,_,_,hlt3,by go_num,NR.o.low (vX.o.trans gQ.o) (Nat.lt_succ_self _),jQ.o,?_,?_,cQ.o.trans ((vX.o.trans gQ.o).mono (Nat.le_succ _))⟩
      ·rw[wP _ HS.o,HHD.o];exact pP.o
      ·rw[UH.o];exact qD.o
     case measure=>first|exact dU hlt3|(have hm:=dU hlt3;rw[← ZA] at hm;exact hm)
theorem KZ {l:List az} (h:l.length≤4):Grown l (iQ l):=by refine ⟨zY l,by simp[iQ,cH,lu],?_⟩;simp[iQ,bG];omega
theorem Oy {W:World} {B:Nat} {v:Value} (h:∀k,v.ownBlock=some k→k<B) {t:ag} {a b c:Value} {B0:Nat} (hB:B0≤B) (hn:bw (mask (vZ B W) W) t a b c):bw (mask (ox B0 v W) W) t a b c:=
 hn.keep (bI fun _ _ hf hv=>⟨⟨⟨Nat.le_trans hB hf.1,hf.2⟩,fun e=>by have:=h _ e.symm;have:=hf.1;omega⟩,hv⟩)
def SN (w:World) (l:List az) (e:Ending) (w':World):Prop:=∃a b c,e=.returned (.agg #[a,b,c])∧bw (mask (vZ w.heap.size w') w') (iQ l) a b c∧Bw w w'
def aeB (w:World) (l:List az) (np:Nat) (i:Value) (wr:World):Prop:=
 ∃(k:Nat) (kv vv:Value),k≤np∧i=.int .i64 k∧cN wr w.heap.size (.slice none 0 0) (.slice none 0 0) (.slice none 0 0)∧cN wr (w.heap.size+1) kv vv (.slice none 0 0)∧wr.ownsRow (w.heap.size+1+1) 3 1 kv k (bB ((l.take k).map Prod.fst))∧wr.ownsRow (w.heap.size+1+1) 3 1 vv k (bB ((l.take k).map Prod.snd))∧eD kv vv∧eD vv kv∧Bw w wr
theorem H8 (l:List az) (v1:Value) (w:World) (h1:ee w v1 l) (h4:l.length≤4) (iO:Gk l):Calls Tryz.prog 45 #[v1] w (SN w l):=by
 obtain ⟨p,cp,rfl,a1,a2,ha⟩:=h1;obtain ⟨n,hn⟩:=aG l.length;rw[hn] at a1 h4;rw[hn];have HN:=aa hn;have HA:=aa ha;have H4:=aa h4;have fL:=aa iO;have h4i:(n:Int)≤4:=by omega
 have hlc:(n:Int)≤9223372036854775807:=by omega
 clear hn a1 a2 ha h4 iO;go_enter Tryz.func45,Tryz.ntmps45;go_wp2_with fail;go_loopw [4] (fun i wr=>aeB w l n i wr) (fun i _=>n-(intOf i).toNat)
 case atStart=>
  refine ⟨0,_,_,dQ,rfl,?_,?_,World.ownsRow_nil _ _ _ _,World.ownsRow_nil _ _ _ _,.inl rfl,.inl rfl,(aq).alloc (by simp) _⟩
  ·exact (cN.new w _ _ _).below (aq)
  ·have:=cN.new (w.alloc (.cells #[.slice none 0 0,.slice none 0 0,.slice none 0 0] 73)) (.slice none 0 0) (.slice none 0 0) (.slice none 0 0)
   simpa using this
 case round=>
  obtain ⟨j,kv,vv,hj,rfl,hres,fN,H7,hrv,hap,ZT,hb⟩:=hrel;obtain ⟨pk,nk,ck,rfl⟩:=jF H7;obtain ⟨pv,nv,cv,rfl⟩:=jF hrv;have sO:=aa fN;have JX:=aa H7;have HRV:=aa hrv;have HB:=aa hb;have NR:=aa hres;by_cases hlt:j<n
  case neg=>
   obtain rfl:j=n:=by omega
   have Rv:decide ((j:Int)<(j:Int))=false:=(by simp);obtain ⟨x0,x1,x2⟩:=fN.cells;obtain ⟨d0,d1,d2⟩:=hres.cells;have f0:=hres.frozen 0;have f1:=hres.frozen 1;have f2:=hres.frozen 2;have aev:=hres.lt;clear fN H7 hrv hb hres hap ZT;have HT:=aa (show l.take j=l from List.take_of_length_le (by rw[HN.o];exact aT));go_wp2_with fail;have ZN:Bw w (((wr.setCell ⟨w.heap.size,0,none⟩ (.slice pk nk ck)).setCell ⟨w.heap.size,1,none⟩ (.slice pv nv cv)).setCell ⟨w.heap.size,2,none⟩ (.slice none 0 0)):=eP (eP (eP HB 0 _) 1 _) 2 _;have jh:w.heap.size<w.heap.size+1+1:=by omega
   have SM:=eT (j:=2) (u:=.slice none 0 0) (eT (j:=1) (u:=.slice pv nv cv) (eT (j:=0) (u:=.slice pk nk ck) JX jh) jh) jh;have hvF:=eT (j:=2) (u:=.slice none 0 0) (eT (j:=1) (u:=.slice pv nv cv) (eT (j:=0) (u:=.slice pk nk ck) HRV jh) jh) jh;obtain ⟨k0,k1,k2⟩:=(((NR.qI (.slice pk nk ck)).zO (.slice pv nv cv)).yQ (.slice none 0 0)).cells;obtain ⟨WF,hWF⟩:∃W,((wr.setCell ⟨w.heap.size,0,none⟩ (.slice pk nk ck)).setCell ⟨w.heap.size,1,none⟩ (.slice pv nv cv)).setCell ⟨w.heap.size,2,none⟩ (.slice none 0 0)=W:=⟨_,rfl⟩
   rw[hWF] at ZN SM hvF k0 k1 k2 ⊢;refine bodyPost_ret (v:=.agg #[.slice pk nk ck,.slice pv nv cv,.slice none 0 0]) (by simp[results,Tryz.results45,go_sem,k0,k1,k2]) rfl ?_;rw[HT.o] at SM hvF;refine ⟨_,_,_,rfl,?_,ZN⟩;exact (VP (W:=WF) (B:=w.heap.size+1+1) (B0:=w.heap.size) fL (by rw[HN.o];exact SM) (by rw[HN.o];exact hvF) (by omega) (v:=.slice none 0 0) (fun k hk=>by simp[Value.ownBlock] at hk)).keep (bI fun _ _ hf hu=>⟨hf.1,hu⟩)
  case pos=>
   have FI:(j:Int)<(n:Int):=(by omega);have ZA:=Dp hj (show n≤1000000 by have:=H4.o;omega);obtain ⟨s,hs⟩:=fy (l:=l) (k:=j) (by rw[HN.o];exact hlt);obtain ⟨g',o',rfl,e1,e2⟩:=HA.o j s hs;have r1:=ae hb e1;have r2:=ae hb e2;have HS:=aa hs;obtain ⟨x0,x1,x2⟩:=fN.cells;have x0b:(wr.alloc (.cells #[.int .i64 s.1] 3)).cell? ⟨w.heap.size+1,0,none⟩=some (.slice pk nk ck):=ae (aq) x0;obtain ⟨g1,c1,w2,ra1,bx1,Wo,ZO,ZP,aeE,kc1⟩:=RT (W:=wr.drew) s.1 fN (World.ownsRow.drew H7) (show j≤1000000 by have:=H4.o;omega);obtain ⟨ZU,ap1,ap2⟩:=aeE _ _ _ (World.ownsRow.drew hrv) ZT;have f0:=bx1.frozen 0;have d0:=bx1.cells.1;obtain ⟨w3,hw3⟩:∃W,w2.setCell ⟨w.heap.size+1,0,none⟩ (.slice (some ⟨g1,0,none⟩) (j+1) c1)=W:=⟨_,rfl⟩
   rw[hw3] at Wo ZO ZP ZU;obtain ⟨g2,c2,w4,ra2,ZQ,bx4,ro2,bl2,aeF,kc2⟩:=RU (W:=w3.drew) s.2 Wo (World.ownsRow.drew ZU) (show j≤1000000 by have:=H4.o;omega);obtain ⟨rk2,ap3,ap4⟩:=aeF _ _ _ (World.ownsRow.drew ZO) ap2;have vX:=aa (show Below (w.heap.size+1) wr w3 from aH.drew.trans ZP);have gQ:=aa (show Below (w.heap.size+1) w3 _ from aH.drew.trans bl2);have mW:=aa (show w.heap.size+1<wr.heap.size from fN.lt);have pK:=aa (show w3.cell? ⟨g',o'+j*2+1,none⟩=some (.int .i64 s.2) from by
    have hlt:=World.block_lt_of_cell? _ _ e2;exact (vX.cell (by simp only at hlt ⊢;omega)).trans r2)
   obtain ⟨_,y1,_⟩:=Wo.cells;obtain ⟨_,d1,_⟩:=ZQ.cells;have f1:=ZQ.frozen 1;have y1b:(w3.alloc (.cells #[.int .i64 s.2] 3)).cell? ⟨w.heap.size+1,1,none⟩=some (.slice pv nv cv):=ae (aq) y1;have HY:=aa (And.intro y1 (And.intro d1 (And.intro f1 y1b)));have GY:=aa ra1;have ZR:=aa ra2;have jQ:=aa bx4;have ak0:=aa rk2;have ak1:=aa ro2;have aeG:=aa (And.intro ap3 ap4);clear ra1 ra2 bx1 Wo ZQ bx4 ZO ro2 ZP bl2 aeE aeF kc1 kc2 ZU rk2 ap1 ap2 ap3 ap4 fN H7 hrv hap ZT hb hres hs e1 e2 y1 d1 f1 y1b r2;go_upto_region 6 with fail;have HW3:=aa hw3;clear hw3;go_region_law (refine bE rfl _ _ _ rfl rfl rfl GY.o ?_)
   all_goals
    rw[HW3.o];clear r1 x0 x1 x2 x0b f0 d0;have r2:=pK.o;obtain ⟨y1,d1,f1,y1b⟩:=HY.o;go_upto_region 7 with fail;go_region_law (refine bE rfl _ _ _ rfl rfl rfl ZR.o ?_)
    all_goals
     clear r2 y1 d1 f1 y1b;go_wp2_with fail;go_roundw
     case rel=>
      refine ⟨j+1,_,_,hlt,by go_num,NR.o.low (vX.o.trans gQ.o) (Nat.lt_succ_self _),jQ.o,?_,?_,aeG.o.1,aeG.o.2,HB.o.trans ((vX.o.trans gQ.o).mono (Nat.le_succ _))⟩
      ·rw[wP _ HS.o];exact ak0.o
      ·rw[wP _ HS.o];exact ak1.o
     case measure=>first|exact dU hlt|(have hm:=dU hlt;rw[← ZA] at hm;exact hm)
theorem SP (l:List az) (v1:Value) (w:World) (h1:ee w v1 l) (h4:l.length≤4) (iO:Gk l):Calls Tryz.prog 45 #[v1] w (wh w l):=
 (H8 l v1 w h1 h4 iO).mono fun _ _ ⟨a,b,c,he,hn,hb⟩=>⟨_,a,b,c,he,KZ h4,hn,hb⟩
def stepT (n f:Nat):Nat:=if n-f=3 then 3 else 2
def jx {α:Type}:List α→List (List α)
 |[]=>[]
 |[a]=>[[a]]
 |[a,b]=>[[a,b]]
 |[a,b,c]=>[[a,b,c]]
 |a::b::r=>[a,b]::jx r
theorem H9 {α:Type}:∀l:List α,(jx l).flatten=l
 |[]=>rfl
 |[a]=>rfl
 |[a,b]=>rfl
 |[a,b,c]=>rfl
 |a::b::c::d::r=>by have:=H9 (c::d::r);simp only[jx,List.flatten_cons,this];rfl
theorem MU {α:Type}:∀l:List α,2≤l.length→∀p∈jx l,2≤p.length∧p.length≤3
 |[],h=>by simp at h
 |[a],h=>by simp at h
 |[a,b],_=>fun p hp=>by simp[jx] at hp;subst hp;simp
 |[a,b,c],_=>fun p hp=>by simp[jx] at hp;subst hp;simp
 |a::b::c::d::r,_=>fun p hp=>by
  simp only[jx,List.mem_cons] at hp;rcases hp with rfl|hp
  ·simp
  ·exact MU (c::d::r) (by simp) p hp
theorem AU {α:Type}:∀l:List α,2≤l.length→2*(jx l).length≤l.length∧1≤(jx l).length
 |[],h=>by simp at h
 |[a],h=>by simp at h
 |[a,b],_=>by simp[jx]
 |[a,b,c],_=>by simp[jx]
 |a::b::c::d::r,_=>by have:=AU (c::d::r) (by simp);simp only[jx,List.length_cons] at this ⊢;omega
theorem Oz {α:Type} {l:List α} {f:Nat} (h2:f+2≤l.length):jx (l.drop f)=(l.drop f).take (stepT l.length f)::jx (l.drop (f+stepT l.length f))∧(f+stepT l.length f=l.length∨f+stepT l.length f+2≤l.length∨f+stepT l.length f+1=l.length):=by
 obtain ⟨d,hd⟩:=aG (l.drop f);have hl:d.length=l.length-f:=by rw[← hd];simp
 rw[← List.drop_drop,hd]
 match d,hl with
 |[],h=>simp at h;omega
 |[a],h=>simp at h;omega
 |[a,b],h=>
  have e:stepT l.length f=2:=by unfold stepT;simp at h;rw[if_neg (by omega)]
  rw[e];simp at h;exact ⟨rfl,by omega⟩
 |[a,b,c],h=>
  have e:stepT l.length f=3:=by unfold stepT;simp at h;rw[if_pos (by omega)]
  rw[e];simp at h;exact ⟨rfl,by omega⟩
 |a::b::c::d::r,h=>
  simp only[List.length_cons] at h;have e:stepT l.length f=2:=by unfold stepT;rw[if_neg (by omega)]
  rw[e];exact ⟨rfl,by omega⟩
theorem MV {α:Type} {l:List α} (h:2≤l.length):SL l (jx l):=by have:=AU l h;exact ⟨H9 l,⟨this.2,by omega,fun _=>this.1⟩,fun p hp=>by have:=MU l h p hp;omega⟩
theorem AV {α:Type}:∀l:List α,l.length≤2*(jx l).length+1
 |[]=>by simp
 |[a]=>by simp[jx]
 |[a,b]=>by simp[jx]
 |[a,b,c]=>by simp[jx]
 |a::b::c::d::r=>by have:=AV (c::d::r);simp only[jx,List.length_cons] at this ⊢;omega
theorem Ia {α:Type} {l:List α} {f:Nat} (h:f=l.length):jx (l.drop f)=[]:=by subst h;rw[List.drop_length];rfl
theorem Dq {α:Type} {l:List α} {n f:Nat} (hn:l.length=n) (h2:f+2≤n):∃k,(k=2∧n-f≠3∨k=3∧n-f=3)∧f+k≤n∧(f+k=n∨f+k+2≤n)∧jx (l.drop f)=(l.drop f).take k::jx (l.drop (f+k)):=by
 subst hn;have h:=(Oz h2).1;by_cases h3:l.length-f=3
 ·exact ⟨3,.inr ⟨rfl,h3⟩,by omega,by omega,by rw[h];unfold stepT;rw[if_pos h3]⟩
 ·exact ⟨2,.inl ⟨rfl,h3⟩,by omega,by omega,by rw[h];unfold stepT;rw[if_neg h3]⟩
theorem OC {w:World} {g o n c f k:Nat} {l:List az} (h:∀i x,l[i]?=some x→∃g' o',some (⟨g,o,none⟩:Addr)=some ⟨g',o',none⟩∧w.cell? ⟨g',o'+i*2,none⟩=some (.int .i64 x.1)∧w.cell? ⟨g',o'+i*2+1,none⟩=some (.int .i64 x.2)) (hn:l.length=n) (hc:n≤c) (hc2:c≤maxLen) (hk:f+k≤n):ee w (.slice (some ⟨g,o+f*2,none⟩) k (c-f)) ((l.drop f).take k):=by
 have hl:((l.drop f).take k).length=k:=by rw[List.length_take,List.length_drop,hn];omega
 refine ⟨_,c-f,by rw[hl],by rw[hl];omega,by omega,fun i x hx=>?_⟩;have hi:i<k:=by have:=(List.getElem?_eq_some_iff.1 hx).1;omega
 rw[List.getElem?_take,if_pos hi,List.getElem?_drop] at hx;obtain ⟨g',o',e,e1,e2⟩:=h _ _ hx;injection e with e;injection e with e e';subst e;subst e';refine ⟨g,o+f*2,rfl,?_,?_⟩
 ·rw[show o+f*2+i*2=o+(f+i)*2 by omega];exact e1
 ·rw[show o+f*2+i*2+1=o+(f+i)*2+1 by omega];exact e2
theorem Wp {l:List az} (h:Gk l) (f k:Nat):Gk ((l.drop f).take k):=fun x hx=>h x (List.mem_of_mem_drop (List.mem_of_mem_take hx))
theorem Wq {w:World} {g f k:Nat} {l:List ag} (h:∀j t,l[j]?=some t→qx w (some ⟨g,0,none⟩) j t):∀j t,((l.drop f).take k)[j]?=some t→qx w (some ⟨g,f*3,none⟩) j t:=by
 intro j t hj;rw[List.getElem?_take] at hj
 split at hj
 ·rw[List.getElem?_drop] at hj
  obtain ⟨g',o',x,y,z,e,e1,e2,e3,e4⟩:=h _ _ hj;injection e with e;injection e with e e';subst e;subst e';rw[Nat.zero_add,show (f+j)*3=f*3+j*3 by omega] at e1 e2 e3;exact ⟨g,f*3,x,y,z,rfl,e1,e2,e3,e4⟩
 ·simp at hj
theorem Dr {w:World} {B D:Nat} (hD:D≤w.heap.size):gH (w.alloc (.cells #[] 73)) B D (.slice (some ⟨w.heap.size,0,none⟩) 0 0) []:=by
 refine ⟨[],rfl,?_,fun x h=>by simp at h⟩;have:=World.ownsRow_made w #[] 0 (base:=D) (e:=73) (size:=3) hD (by unfold maxLen;omega) rfl
 simpa [o6] using this
def aeH (w:World) (l:List az) (n:Nat) (v i:Value) (wr:World):Prop:=
 ∃(f:Nat) (L:List (List az)),f≤n∧i=.int .i64 f∧L++jx (l.drop f)=jx l∧(f=n∨f+2≤n)∧L.length≤f∧gH wr (w.heap.size+1) (w.heap.size+1) v (L.map iQ)∧cN wr w.heap.size (.slice none 0 0) (.slice none 0 0) (.slice none 0 0)∧Bw w wr
def K0 (w:World) (l:List az) (k:Nat) (v:Value) (wr:World):Prop:=
 2≤k∧k≤1000000∧∃(row:List ag) (d:Nat),row.length=k∧CW row l d∧gH wr (w.heap.size+1) (w.heap.size+1) v row∧cN wr w.heap.size (.slice none 0 0) (.slice none 0 0) (.slice none 0 0)∧Bw w wr
def aeI (w wq:World) (row:List ag) (m:Nat) (v i:Value) (wr:World):Prop:=
 ∃(f:Nat) (L:List (List ag)),f≤m∧i=.int .i64 f∧L++jx (row.drop f)=jx row∧(f=m∨f+2≤m)∧L.length≤f∧gH wr (w.heap.size+1) wq.heap.size v (L.map jG)∧Bw wq wr
theorem Dt {n f k:Nat} (h:f+k≤n) (hk:1≤k):n-(intOf (.int .i64 ((f+k:Nat):Int))).toNat<n-(intOf (.int .i64 (f:Int))).toNat:=by simp only[intOf];omega
theorem Du {n f k:Nat} (h:f+k≤n) (h2:n≤1000000):wrap64 ((n:Int)-(f:Int))=((n-f:Nat):Int)∧wrap64 ((f:Int)+(k:Int))=((f+k:Nat):Int):=by
 constructor
 ·unfold wrap64;omega
 ·unfold wrap64;omega
theorem SQ (l:List az) (v1:Value) (w:World) (h1:ee w v1 l) (h4:4<l.length) (hlen:l.length≤900000) (iO:Gk l):Calls Tryz.prog 45 #[v1] w (wh w l):=by
 have fL:=aa iO;obtain ⟨p,c,rfl,a1,a2,ha⟩:=h1;obtain ⟨g,o,rfl⟩:∃g o,p=some ⟨g,o,none⟩:=by obtain ⟨g,o,e,_⟩:=ha 0 _ (List.getElem?_eq_getElem (by omega));exact ⟨g,o,e⟩
 obtain ⟨n,hn⟩:=aG l.length;rw[hn] at a1 h4 hlen;rw[hn];have HN:=aa hn;have HA:=aa ha;have sF:=aa (And.intro h4 hlen);have HC:=aa (And.intro a1 a2);have h4i:¬(n:Int)≤4:=by omega
 have hlc:(n:Int)≤9223372036854775807:=by omega
 clear hn ha hlen iO a1 a2;go_enter Tryz.func45,Tryz.ntmps45;go_wp2_with fail;clear h4i h4;go_loopw [5,6] (fun v i wr=>aeH w l n v i wr) (fun _ i _=>n-(intOf i).toNat)
 case atStart=>
  refine ⟨0,[],dQ,rfl,by rw[List.drop_zero];rfl,.inr (by have:=sF.o;omega),aT,?_,(cN.new w _ _ _).below (aq),(aq).alloc (by simp) _⟩;have:=Dr (w:=w.alloc (.cells #[.slice none 0 0,.slice none 0 0,.slice none 0 0] 73)) (B:=w.heap.size+1) (D:=w.heap.size+1) (by simp)
  simpa using this
 case round=>
  obtain ⟨f,L,hf,rfl,SR,hend,hLf,qj,hz,hb⟩:=hrel;obtain ⟨nr,ZV⟩:∃q,L.length=q:=⟨_,rfl⟩
  obtain ⟨pr,cr,rfl⟩:=qj.RV (n:=nr) (by rw[List.length_map];exact ZV);have SS:=aa SR;have yR:=aa qj;have HZ:=aa hz;have HB:=aa hb;have B6:=aa (And.intro ZV hLf);clear SR qj hz hb ZV hLf;by_cases hlt:f<n
  case pos=>
   obtain ⟨k,hk,Hs,hke,hstep⟩:=Dq HN (show f+2≤n by omega);have hfi:(f:Int)<(n:Int):=by omega
   obtain ⟨hi,Gq⟩:∃q,f+k=q:=⟨_,rfl⟩
   obtain ⟨w1,w2⟩:=Du Hs (show n≤1000000 by have:=sF.o;omega);rw[Gq] at w2;have HK:=aa hk;have Km:=aa (And.intro Hs (And.intro hke Gq));have pQ:=aa hstep;have HPA:=aa (OC (f:=f) (k:=k) (fun i x hx=>by obtain ⟨g',o',e,e1,e2⟩:=HA.o i x hx;exact ⟨g',o',e,ae HB e1,ae HB e2⟩) HN HC.1 HC.2 Hs);have Q9:=aa (Wp fL f k);have om:=aa (show ((l.drop f).take k).length≤4 by rw[List.length_take];omega);obtain ⟨q,hq⟩:=aG ((l.drop f).take k);rw[hq] at HPA Q9 om pQ;obtain ⟨s3,s1,s2,s4,s5,s6,s8,s9,s10⟩:=xM Gq (show hi≤n by omega) HC.1 (show 1≤k by omega);have S3:=aa s3;have Es:1≤k:=by omega
   have HM:=aa (Dt Hs Es);rw[Gq] at HM;clear Hs hke hstep hq Gq hend s3 Es w1;rcases hk with ⟨rfl,h3⟩|⟨rfl,h3⟩
   all_goals
    first
    |(have hd3:((n:Int)-(f:Int)==3)=false:=by simp only[beq_eq_false_iff_ne,ne_eq];omega
      have hw3:wrap64 ((f:Int)+2)=(hi:Int):=w2;have hcc:(f:Int)+2≤(c:Int):=by have:=Km.o;omega)
    |(have hd3:((n:Int)-(f:Int)==3)=true:=by simp only[beq_iff_eq];omega
      have hw3:wrap64 ((f:Int)+3)=(hi:Int):=w2;have hcc:(f:Int)+3≤(c:Int):=by have:=Km.o;omega)
    go_wp2_with fail
    try rw[S3.o]
    refine (H8 q _ _ HPA om Q9).mono ?_;rintro e w3 ⟨xa,xb,xc,rfl,MW,hb3⟩;obtain ⟨qa,na,ca,qb,nb,cb,qc,nc,cc,rfl,rfl,rfl⟩:=bc MW;have Ib:=aa MW;have dG:=aa hb3;clear MW hb3;obtain ⟨g6,c6,w6,hrun,Ic,cW⟩:=C4 w3 (w.heap.size+1) (w.heap.size+1) nr _ _ (iQ q) _ _ _ (yR.below dG) (by rw[List.length_map];exact B6.1) (by have:=B6.o;have:=sF.o;omega) (Nat.le_trans HZ.lt dG.size) (Oy (fun k hk=>(yR.block k hk).2) (Nat.le_of_lt HZ.lt |> fun h=>by have:=HZ.lt;omega) Ib);have dM:=aa hrun;have FL:=aa Ic;have cQ:=aa ((HB.trans (gX dG HB.size)).trans (cW.mono (Nat.le_succ _)));have Hz:=aa ((HZ.below dG).low cW (Nat.lt_succ_self _));have ZW:=aa (show hi≤n∧(hi=n∨hi+2≤n)∧f+1≤hi by have:=Km.o;omega);clear hrun Ic cW hd3 s1 s2 s4 s5 s6 s8 s9 s10;go_wp2_with (at_builtin;refine Lib.wpList_append_run _ rfl _ _ _ _ rfl _ _ rfl rfl _ _ dM.o ?_);go_roundw
    case rel=>exact ⟨hi,L++[q],ZW.1,by have hh:=Km.2.2;(first|(go_num;done)|(congr 1;omega)),by rw[← SS.o,pQ.o,Km.o.2.2];simp,ZW.o.2.1,by rw[List.length_append];have h1:=ZW.o.2.2;have h2:=B6.o.2;simp only[List.length_cons,List.length_nil];omega,by rw[List.map_append];exact FL.o,Hz.o,cQ.o⟩
    case measure=>first|exact HM|(have hm:=HM.o;first|(rw[← hw3] at hm;exact hm)|(rw[← Km.o.2.2] at hm;push_cast at hm;exact hm))
  case neg=>
   obtain rfl:f=n:=by omega
   have Rv:decide ((f:Int)<(f:Int))=false:=(by simp);have hL:L=jx l:=by have:=SS.o;rw[Ia HN.o.symm,List.append_nil] at this;exact this
   have SU:=AV l;rw[← hL,B6.o.1,HN.o] at SU;have hok:CW ((jx l).map iQ) l 1:=Ox (by rw[HN.o];have:=sF.o;omega) (by rw[HN.o];have:=sF.o;omega) (MV (by rw[HN.o];have:=sF.o;omega));have Ws:=aa (show K0 w l nr (.slice pr nr cr) wr from ⟨by have:=sF.o;omega,by have:=sF.o;have h1:=B6.2;rw[B6.o.1] at h1;omega,_,_,by rw[List.length_map,← hL];exact B6.1,hok,by rw[← hL];exact yR,HZ,HB⟩);clear hL SU hok hend;go_wp2_with fail;go_loopg [5] nr (fun k v wr=>K0 w l k v wr)
   case atStart=>exact Ws.o
   case round=>
    obtain ⟨h2,hgk,row,d,hrl,hok,qj,hz,hb⟩:=hrel;obtain ⟨pr2,cr2,rfl,hs1,hs2,hs3⟩:=qj.shape;have Ca:=aa hok;have Aj:=aa hrl;have Ie:=aa (And.intro h2 hgk);have ZX:=aa qj;have sK:=aa hz;have dG:=aa hb;rw[hrl] at hs1 ⊢;have UI:=aa (And.intro hs1 (And.intro hs2 hs3));clear hgk hok qj hz hb Ws HB yR HZ hs1 hs2 hs3;obtain ⟨g7,e7,_⟩:=ZX.kid aT 0 _ (List.getElem?_eq_getElem (by rw[Aj.o];omega));subst e7;have Rq:=aa (show ∀j t,row[j]?=some t→qx (mask (vZ (w.heap.size+1) wr) wr) (some ⟨g7,0,none⟩) j t from fun j t hj=>by
     obtain ⟨g8,e8,h8⟩:=ZX.kid aT j t hj;injection e8 with e8;injection e8 with e8 e9;subst e8;exact h8)
    obtain ⟨wo,QQ⟩:∃W,W=wr:=⟨_,rfl⟩
    rw[← QQ] at ZX sK dG UI Rq ⊢;clear QQ;by_cases h4:gk≤4
    case pos=>
     have h4i:¬(4:Int)<(gk:Int):=(by omega);obtain ⟨d0,d1,d2⟩:=sK.cells;have f0:=sK.frozen 0;have f1:=sK.frozen 1;have f2:=sK.frozen 2;have hab:=AR row (w.heap.size+1) wo.heap.size g7 0 cr2 wo (by rw[Aj.o];omega) (by rw[Aj.o];have:=Ie.o;omega) sK.lt aT Ca.keys (fun j t hj=>G2 (Rq j t hj) (MC aH));rw[Aj.o] at hab;have HAB:=aa hab;have vV:=aa (show Grown l (jG row) from NU (Dn (L:=[row]) Ca (by rw[Aj.o];exact h2) ⟨by simp,⟨by simp,by simp only[List.length_cons,List.length_nil];rw[Aj.o];omega,fun _=>by simp only[List.length_cons,List.length_nil];rw[Aj.o];omega⟩,fun p hp=>by simp only[List.mem_cons,List.not_mem_nil,or_false] at hp;subst hp;rw[Aj.o];exact ⟨by omega,h4,fun h=>h⟩⟩) rfl);clear hab h4 d0 d1 d2 f0 f1 f2;go_wp2_with fail;refine HAB.mono ?_;rintro e w3 ⟨xa,xb,xc,rfl,hn,hb3⟩;have MW:=hn (.slice none 0 0) (fun k hk=>by simp[Value.ownBlock] at hk);obtain ⟨px,nx,cx,py,ny,cy,pz,nz,cz,rfl,rfl,rfl⟩:=bc MW;have HN7:=aa (show bw (mask (vZ (w.heap.size+1) w3) w3) (jG row) (.slice px nx cx) (.slice py ny cy) (.slice pz nz cz) from MW.keep (bI fun _ _ hf hu=>⟨hf.1,hu⟩));have qq:=aa (sK.below hb3);have gz:=aV dG hb3;obtain ⟨d0,d1,d2⟩:=qq.cells;have f0:=qq.frozen 0;have f1:=qq.frozen 1;have f2:=qq.frozen 2;clear hn MW hb3;go_wp2_with fail;have aev:w.heap.size<w3.heap.size:=qq.lt;have XS:=eP (eP (eP gz 0 (.slice px nx cx)) 1 (.slice py ny cy)) 2 (.slice pz nz cz);have hNF:=((HN7.keep (zW (aw w3 w.heap.size 0 (.slice px nx cx)) (Nat.lt_succ_self _) aT)).keep (zW (aw _ w.heap.size 1 (.slice py ny cy)) (Nat.lt_succ_self _) aT)).keep (zW (aw _ w.heap.size 2 (.slice pz nz cz)) (Nat.lt_succ_self _) (Nat.le_succ _));obtain ⟨k0,k1,k2⟩:=(((qq.qI (.slice px nx cx)).zO (.slice py ny cy)).yQ (.slice pz nz cz)).cells;obtain ⟨WF,hWF⟩:∃W,((w3.setCell ⟨w.heap.size,0,none⟩ (.slice px nx cx)).setCell ⟨w.heap.size,1,none⟩ (.slice py ny cy)).setCell ⟨w.heap.size,2,none⟩ (.slice pz nz cz)=W:=⟨_,rfl⟩
     rw[hWF] at XS hNF k0 k1 k2 ⊢;refine bodyPost_ret (v:=.agg #[.slice px nx cx,.slice py ny cy,.slice pz nz cz]) (by simp[results,Tryz.results45,go_sem,k0,k1,k2]) rfl ?_;exact ⟨_,_,_,_,rfl,vV,hNF,XS⟩
    case neg=>
     have h4i:(4:Int)<(gk:Int):=(by omega);have QL:=aa (show 4<gk by omega);have hlg:(gk:Int)≤9223372036854775807:=by have:=Ie.o;omega
     clear h4;go_wp2_with fail;clear h4i;go_loopw [8,9] (fun v i wr=>aeI w wo row gk v i wr) (fun _ i _=>gk-(intOf i).toNat)
     case atStart=>exact ⟨0,[],dQ,rfl,by rw[List.drop_zero];rfl,.inr (by have:=QL.o;omega),aT,Dr aT,aq⟩
     case round=>
      obtain ⟨f,L,hf,rfl,SR,hend,hLf,qj,hb⟩:=hrel;obtain ⟨nr,ZV⟩:∃q,L.length=q:=⟨_,rfl⟩
      obtain ⟨pr,cr,rfl⟩:=qj.RV (n:=nr) (by rw[List.length_map];exact ZV);have SS:=aa SR;have yR:=aa qj;have HB:=aa hb;have B6:=aa (And.intro ZV hLf);clear SR qj hb ZV hLf;by_cases hlt:f<gk
      case pos=>
       obtain ⟨k,hk,Hs,hke,hstep⟩:=Dq Aj (show f+2≤gk by omega);have hfi:(f:Int)<(gk:Int):=by omega
       obtain ⟨hi,Gq⟩:∃q,f+k=q:=⟨_,rfl⟩
       obtain ⟨w1,w2⟩:=Du Hs (show gk≤1000000 by have:=Ie.o;omega);rw[Gq] at w2;have Km:=aa (And.intro Hs (And.intro hke Gq));have pQ:=aa hstep;have Mz:=aa (show gk≤cr2 from UI.1);have Vl:=aa (Wq (f:=f) (k:=k) (fun j t hj=>G2 (Rq j t hj) (MC HB)));have HQK:=aa (show ∀t∈(row.drop f).take k,1≤t.keys.length from fun t ht=>Ca.keys t (List.mem_of_mem_drop (List.mem_of_mem_take ht)));have om:=aa (show ((row.drop f).take k).length=k by rw[List.length_take,List.length_drop,Aj.o];omega);obtain ⟨q,hq⟩:=aG ((row.drop f).take k);rw[hq] at Vl HQK om pQ;obtain ⟨s3,s1,s2,s4,s5,s6,s8,s9,s10⟩:=xM Gq (show hi≤gk by omega) UI.1 (show 1≤k by omega);have S3:=aa s3;have Es:1≤k:=by omega
       have hk3:k≤3:=(by omega);have HM:=aa (Dt Hs Es);rw[Gq] at HM;have hab:=AR q (w.heap.size+1) wo.heap.size g7 (f*3) (cr2-f) wr (by rw[om.o];exact Es) (by rw[om.o];omega) sK.lt HB.size HQK Vl.o;rw[om.o] at hab;have HAB:=aa hab;clear Hs hke hstep hq Gq hend s3 Es w1 hk3 hab;rcases hk with ⟨rfl,h3⟩|⟨rfl,h3⟩
       all_goals
        first
        |(have hd3:((gk:Int)-(f:Int)==3)=false:=by simp only[beq_eq_false_iff_ne,ne_eq];omega
          have hw3:wrap64 ((f:Int)+2)=(hi:Int):=w2;have hcc:(f:Int)+2≤(cr2:Int):=by have:=Km.o;have:=Mz.o;omega)
        |(have hd3:((gk:Int)-(f:Int)==3)=true:=by simp only[beq_iff_eq];omega
          have hw3:wrap64 ((f:Int)+3)=(hi:Int):=w2;have hcc:(f:Int)+3≤(cr2:Int):=by have:=Km.o;have:=Mz.o;omega)
        go_wp2_with fail
        try rw[S3.o]
        refine HAB.mono ?_;rintro e w3 ⟨xa,xb,xc,rfl,hn,hb3⟩;have MW:=hn (.slice pr nr cr) (fun b SV=>yR.block b SV);obtain ⟨qa,na,ca,qb,nb,cb,qc,nc,cc,rfl,rfl,rfl⟩:=bc MW;have ar7:=aa hb3;obtain ⟨g6,c6,w6,hrun,Ic,cW⟩:=C4 w3 (w.heap.size+1) wo.heap.size nr _ _ (jG q) _ _ _ (yR.below hb3) (by rw[List.length_map];exact B6.1) (by have h1:=B6.2;rw[B6.o.1] at h1;have:=Ie.o;omega) (Nat.le_trans HB.size hb3.size) MW;have dM:=aa hrun;have FL:=aa Ic;have cQ:=aa ((HB.trans (gX hb3 HB.size)).trans cW);have ZW:=aa (show hi≤gk∧(hi=gk∨hi+2≤gk)∧f+1≤hi by have:=Km.o;omega);clear hrun Ic cW hd3 s1 s2 s4 s5 s6 s8 s9 s10 hn MW hb3;go_wp2_with (at_builtin;refine Lib.wpList_append_run _ rfl _ _ _ _ rfl _ _ rfl rfl _ _ dM.o ?_);go_roundw
        case rel=>exact ⟨hi,L++[q],ZW.1,by have hh:=Km.2.2;(first|(go_num;done)|(congr 1;omega)),by rw[← SS.o,pQ.o,Km.o.2.2];simp,ZW.o.2.1,by rw[List.length_append];have h1:=ZW.o.2.2;have h2:=B6.o.2;simp only[List.length_cons,List.length_nil];omega,by rw[List.map_append];exact FL.o,cQ.o⟩
        case measure=>first|exact HM|(have hm:=HM.o;first|(rw[← hw3] at hm;exact hm)|(rw[← Km.o.2.2] at hm;push_cast at hm;exact hm))
      case neg=>
       obtain rfl:f=gk:=by omega
       have Rv:decide ((f:Int)<(f:Int))=false:=(by simp);have hL:L=jx row:=by have:=SS.o;rw[Ia Aj.o.symm,List.append_nil] at this;exact this
       have SU:=AV row;have hup:=(AU row (by rw[Aj.o];exact Ie.1)).1;rw[← hL,B6.o.1,Aj.o] at SU hup;have Gp:K0 w l nr (.slice pr nr cr) wr:=⟨by have:=QL.o;omega,by have:=Ie.o;omega,(jx row).map jG,d+1,by rw[List.length_map,← hL];exact B6.1,Dn Ca (by rw[Aj.o];exact Ie.1) (MV (by rw[Aj.o];exact Ie.1)),by rw[← hL];exact yR.mono sK.lt,sK.low HB sK.lt,dG.trans (gX HB dG.size)⟩
       have uR:=aa Gp;have VM:=aa (show nr<f by have:=QL.o;omega);clear hL SU hup Gp hend;go_wp2_with fail;go_roundg nr
       case measure=>exact VM.o
       case rel=>exact uR.o
theorem Wt (l:List az) (v1:Value) (w:World) (h1:ee w v1 l) (hlen:l.length≤900000) (iO:Gk l):Calls Tryz.prog 45 #[v1] w (wh w l):=by
 by_cases h:l.length≤4
 ·exact SP l v1 w h1 h iO
 ·exact SQ l v1 w h1 (by omega) hlen iO
end Go.Proofs.YtbigkioechkngaaGreat
