/- The proof, part 12. -/
import Derived.Test.YtbigkioechkngaaGreatR1
set_option maxRecDepth 100000
set_option maxHeartbeats 8000000
namespace Go.Proofs.YtbigkioechkngaaGreat
open Go.RowKit Tryz
variable {l:List ay}{f k n:Nat}{w:World}
theorem CW {j:Nat} (h:j≤n) (h2:n≤1000000):wrap64 ((j:Int)+1)=(j:Int)+1:=by unfold wrap64;omega
theorem wh {α:Type} {p:List α} {s:α} (f:α→Int) (h:p[k]?=some s):(p.take (k+1)).map f=(p.take k).map f++[f s]:=by obtain ⟨hk,rfl⟩:=List.getElem?_eq_some_iff.1 h;rw[List.take_succ_eq_append_getElem hk,List.map_append];rfl
def adL (w:World) (q:List ag) (xs:List Value) (np:Nat) (i:Value) (wr:World):Prop:=
 ∃(k:Nat) (kv cv:Value),k≤np∧i=.int .i64 k∧cL wr w.heap.size (.slice none 0 0) (.slice none 0 0) (.slice none 0 0)∧cL wr (w.heap.size+1) kv (.slice none 0 0) cv∧wr.ownsRow (w.heap.size+2) 3 1 kv k (bw ((q.take k).map sD))∧wr.ownsRow (w.heap.size+2) 73 3 cv k (xs.take (k*3))∧Bw w wr
def VH (w:World) (q:List ag) (B0 D:Nat) (e:Ending) (w':World):Prop:=
 ∃a b c,e=.returned (.agg #[a,b,c])∧(∀v:Value,(∀k,v.ownBlock=some k→D≤k∧k<w.heap.size)→bn (mask (nX B0 v w') w') (jB q) a b c)∧Bw w w'
theorem Aw (q:List ag) (B0 D g o c:Nat) (w:World) (hq:1≤q.length) (BC:q.length≤1000000) (h0:B0≤D) (hD:D≤w.heap.size) (hk:∀t∈q,1≤t.keys.length) (h:∀j t,q[j]?=some t→pV (mask (Mb B0 D w) w) (some ⟨g,o,none⟩) j t) :
 Calls prog 98 #[.slice (some ⟨g,o,none⟩) q.length c] w (VH w q B0 D):=by
 obtain ⟨np,Vh⟩:∃n,q.length=n:=⟨_,rfl⟩
 rw[Vh] at hq BC;obtain ⟨xs,jh,hxs⟩:=Ra h;rw[Vh] at jh;rw[Vh];have nU:=aa Vh;have HQ1:=aa hq;have Vi:=aa BC;have jZ:=aa h;have VI:=aa jh;have HXS:=aa hxs;have HQK:=aa hk;have fJ:=aa (And.intro h0 hD);have hlc:(np:Int)≤9223372036854775807:=by omega
 clear Vh hq BC h jh hxs hk h0 hD;go_enter func98,ntmps98;go_wp2_with fail;go_loopw [4] (fun i wr=>adL w q xs np i wr) (fun i _=>np-(intOf i).toNat)
 case atStart=>
  refine ⟨0,_,_,dO,rfl,?_,?_,World.ownsRow_nil _ _ _ _,by rw[Nat.zero_mul,List.take_zero];exact World.ownsRow_nil _ _ _ _,(ar).alloc (by simp) _⟩
  ·exact (cL.new w _ _ _).below (ar)
  ·have:=cL.new (w.alloc (.cells #[.slice none 0 0,.slice none 0 0,.slice none 0 0] 73)) (.slice none 0 0) (.slice none 0 0) (.slice none 0 0)
   simpa using this
 case round=>
  obtain ⟨j,kv,cv,hj,rfl,hres,fI,Hc,GA,cV⟩:=hrel;obtain ⟨pk,nk,ck,rfl⟩:=jA Hc;obtain ⟨pc,nc,cc,rfl⟩:=jA GA;have sB:=aa fI;have Jw:=aa Hc;have HRC:=aa GA;have cU:=aa cV;have Nn:=aa hres;by_cases hlt3:j<np
  case neg=>
   obtain rfl:j=np:=by omega
   have Q1:decide ((j:Int)<(j:Int))=false:=(by simp);obtain ⟨gr,cr5,hcv⟩:∃gr cr5,(Value.slice pc nc cc)=.slice (some ⟨gr,0,none⟩) j cr5:=by
    rcases aJ GA with ⟨_,h,_⟩|⟨g',c',h⟩
    ·have:=HQ1.o;omega
    ·exact ⟨_,_,h⟩
   injection hcv with e1 e2 e3;subst e1;subst e2;subst e3;obtain ⟨x0,x1,x2⟩:=fI.cells;obtain ⟨d0,d1,d2⟩:=hres.cells;have f0:=hres.frozen 0;have f1:=hres.frozen 1;have f2:=hres.frozen 2;have adN:=hres.lt;clear fI Hc GA cV hres;have HT:=aa (show q.take nc=q from List.take_of_length_le (by rw[nU.o];exact aT));have HT2:=aa (show xs.take (nc*3)=xs from List.take_of_length_le (by rw[VI.o.1];exact aT));go_wp2_with fail;have hg:wr.grownBy (((wr.setCell ⟨w.heap.size,0,none⟩ (.slice pk nk ck)).setCell ⟨w.heap.size,1,none⟩ (.slice none 0 0)).setCell ⟨w.heap.size,2,none⟩ (.slice (some ⟨gr,0,none⟩) nc cc)) (some w.heap.size):=((av wr w.heap.size 0 _).trans (av _ w.heap.size 1 _)).trans (av _ w.heap.size 2 _);have Y7:Bw w (((wr.setCell ⟨w.heap.size,0,none⟩ (.slice pk nk ck)).setCell ⟨w.heap.size,1,none⟩ (.slice none 0 0)).setCell ⟨w.heap.size,2,none⟩ (.slice (some ⟨gr,0,none⟩) nc cc)):=eM (eM (eM cU 0 _) 1 _) 2 _;have Sh:=eO (j:=2) (u:=.slice (some ⟨gr,0,none⟩) nc cc) (eO (j:=1) (u:=.slice none 0 0) (eO (j:=0) (u:=.slice pk nk ck) Jw (show w.heap.size<w.heap.size+2 by omega)) (show w.heap.size<w.heap.size+2 by omega)) (show w.heap.size<w.heap.size+2 by omega);have hcF:=eO (j:=2) (u:=.slice (some ⟨gr,0,none⟩) nc cc) (eO (j:=1) (u:=.slice none 0 0) (eO (j:=0) (u:=.slice pk nk ck) HRC (show w.heap.size<w.heap.size+2 by omega)) (show w.heap.size<w.heap.size+2 by omega)) (show w.heap.size<w.heap.size+2 by omega);obtain ⟨k0,k1,k2⟩:=(((Nn.qw (.slice pk nk ck)).zw (.slice none 0 0)).yt (.slice (some ⟨gr,0,none⟩) nc cc)).cells;obtain ⟨WF,hWF⟩:∃W,((wr.setCell ⟨w.heap.size,0,none⟩ (.slice pk nk ck)).setCell ⟨w.heap.size,1,none⟩ (.slice none 0 0)).setCell ⟨w.heap.size,2,none⟩ (.slice (some ⟨gr,0,none⟩) nc cc)=W:=⟨_,rfl⟩
   rw[hWF] at hg Y7 Sh hcF k0 k1 k2 ⊢;refine bodyPost_ret (v:=.agg #[.slice pk nk ck,.slice none 0 0,.slice (some ⟨gr,0,none⟩) nc cc]) (by simp[results,results98,go_sem,k0,k1,k2]) rfl ?_;refine ⟨_,_,_,rfl,fun v hv=>?_,Y7⟩;rw[HT.o] at Sh;rw[HT2.o] at hcF;have:=Vo (W:=WF) (B:=w.heap.size+2) (B0:=B0) (D:=D) (Dc:=w.heap.size+2) (kv:=.slice pk nk ck) (gr:=gr) (cr:=cc) (q:=q) (xs:=xs) (by rw[nU.o];exact HQ1) (by rw[nU.o];exact Sh)
    (fun t ht=>by
     obtain ⟨i,hi⟩:=List.getElem?_of_mem ht;obtain ⟨_,_,_,_,_,_,_,_,_,hn⟩:=jZ.o i t hi;obtain ⟨_,_,_,_,_,_,h,_⟩:=Md hn (HQK t ht);exact h)
    (by have:=fJ.o;omega) (by have:=fJ.o;omega) (v:=v) (fun b hb=>⟨(hv b hb).1,by have:=(hv b hb).2;omega⟩) (by have:=fJ.o;omega) aT fJ.1 (by rw[nU.o];exact hcF)
    (fun i t hi=>by
     obtain ⟨x,y,z,e1,e2,e3,e4⟩:=HXS.o i t hi;exact ⟨x,y,z,e1,e2,e3,e4.keep (bF fun _ _ hf hu=>⟨⟨⟨hf.1.1,oO hf.1.2 Y7⟩,hf.2⟩,ae Y7 hu⟩)⟩)
   rw[nU.o] at this;exact this
  case pos=>
   have Gg:(j:Int)<(np:Int):=(by omega);have YT:=CW hj Vi.o;obtain ⟨s,hs⟩:=fx (l:=q) (k:=j) (by rw[nU.o];exact hlt3);obtain ⟨g9,o9,x,y,z,e9,c0,c1,c2,hn9⟩:=jZ.o j s hs;injection e9 with e9;injection e9 with e9 e10;subst e9;subst e10;obtain ⟨gk2,ok2,nx,cx,rfl,hx1,_,hx3⟩:=Md hn9 (HQK s (List.mem_of_getElem? hs));obtain ⟨_,_,_,py,ny,cy,pz,nz,cz,_,rfl,rfl⟩:=aZ hn9;obtain ⟨u0,u1,u2,t0,t1,t2,_⟩:=HXS.o j s hs;have v0:=VI.2.2.2 _ rfl _ _ t0;have v1:=VI.2.2.2 _ rfl _ _ t1;have v2:=VI.2.2.2 _ rfl _ _ t2;rw[nA] at v0 v1 v2;rw[Option.some.inj (v0.symm.trans (aq.1 c0).2)] at t0;rw[Option.some.inj (v1.symm.trans (aq.1 c1).2)] at t1;rw[Option.some.inj (v2.symm.trans (aq.1 c2).2)] at t2;have Uf:=aa (ac7 t0 t1 t2);clear v0 v1 v2 t0 t1 t2;have r0:=ae cU (aq.1 c0).2;have r1:=ae cU (aq.1 c1).2;have r2:=ae cU (aq.1 c2).2;have r3:=ae cU (aq.1 hx3).2;have HS:=aa hs;obtain ⟨hd,hhd⟩:∃h,sD s=h:=⟨_,rfl⟩
   rw[hhd] at r3;have HHD:=aa hhd;have hnx:0<nx:=hx1;have HR:=aa (And.intro r0 (And.intro r1 r2));obtain ⟨x0,x1,x2⟩:=fI.cells;have x0b:(wr.alloc (.cells #[.int .i64 hd] 3)).cell? ⟨w.heap.size+1,0,none⟩=some (.slice pk nk ck):=ae (ar) x0;obtain ⟨g1,c8,w7,ra1,bx1,VJ,Y8,ro2,Y9,kc1⟩:=Ny (W:=wr.drew) hd fI (World.ownsRow.drew Hc) (World.ownsRow.drew GA) (Nat.le_trans hj Vi);have f0:=bx1.frozen 0;have d0:=bx1.cells.1;obtain ⟨w8,XA⟩:∃W,w7.setCell ⟨w.heap.size+1,0,none⟩ (.slice (some ⟨g1,0,none⟩) (j+1) c8)=W:=⟨_,rfl⟩
   rw[XA] at VJ Y8 ro2 Y9;obtain ⟨g2,c9,w9,ra2,Za,bx4,ro3,ro4,bl2⟩:=Rq (W:=w8.drew) (pa:=some ⟨gk2,ok2,none⟩) (na:=nx) (ca:=cx) (pb:=py) (nb:=ny) (cb:=cy) (pc:=pz) (nc:=nz) (cc:=cz) VJ (World.ownsRow.drew Y8) (World.ownsRow.drew ro2) (Nat.le_trans hj Vi);have vE:=aa (show Below (w.heap.size+1) wr w8 from aH.drew.trans Y9);have gI:=aa (show Below (w.heap.size+1) w8 _ from aH.drew.trans bl2);have Gv:=aa ra1;have Zb:=aa ra2;have jK:=aa bx4;have qi:=aa ro3;have pG:=aa ro4;have mN:=aa (show w.heap.size+1<wr.heap.size from fI.lt);have Jo:=aa (show ∀a u,w.cell? a=some u→w8.cell? a=some u from fun a u hu=>by
    have hlt:=World.block_lt_of_cell? _ _ hu;exact (vE.cell (by omega)).trans (ae cU hu))
   obtain ⟨_,_,y2⟩:=VJ.cells;obtain ⟨_,_,d2⟩:=Za.cells;have f2:=Za.frozen 2;have y2b:(w8.alloc (.cells #[.slice (some ⟨gk2,ok2,none⟩) nx cx,.slice py ny cy,.slice pz nz cz] 73)).cell? ⟨w.heap.size+1,2,none⟩=some (.slice pc nc cc):=ae (ar) y2;have HY:=aa (And.intro y2 (And.intro d2 (And.intro f2 y2b)));have FO:=aa (And.intro (Jo.o _ _ (aq.1 c0).2) (And.intro (Jo.o _ _ (aq.1 c1).2) (Jo _ _ (aq.1 c2).2)));clear ra1 ra2 bx1 VJ Za bx4 Y8 ro2 ro3 ro4 Y9 bl2 kc1 fI Hc GA cV hs c0 c1 c2 hn9 hx3 hhd hx1 y2 d2 f2 hres r1 r2 y2b;go_upto_region 5 with fail;have HW8:=aa XA;clear XA;go_region_law (refine bD rfl _ _ _ rfl rfl rfl Gv.o ?_)
   all_goals
    rw[HW8.o];clear r0 r3 x0 x1 x2 f0 d0 hnx x0b;obtain ⟨r0,r1,r2⟩:=FO.o;obtain ⟨y2,d2,f2,y2b⟩:=HY.o;go_upto_region 6 with fail;go_region_law (refine bD rfl _ _ _ rfl rfl rfl Zb.o ?_)
    all_goals
     clear r0 r1 r2 y2 d2 f2 y2b;go_wp2_with fail;go_roundw
     case rel=>
      refine ⟨j+1,_,_,hlt3,by go_num,Nn.o.low (vE.o.trans gI.o) (Nat.lt_succ_self _),jK.o,?_,?_,cU.o.trans ((vE.o.trans gI.o).mono (Nat.le_succ _))⟩
      ·rw[wh _ HS.o,HHD.o];exact pG.o
      ·rw[Uf.o];exact qi.o
     case measure=>first|exact dQ hlt3|(have hm:=dQ hlt3;rw[← YT] at hm;exact hm)
theorem Kp (h:l.length≤4):Grown l (iN l):=by refine ⟨zI l,by simp[iN,cC,lg],?_⟩;simp[iN,bE];omega
theorem NZ {W:World} {B:Nat} {v:Value} (h:∀k,v.ownBlock=some k→k<B) {t:ag} {a b c:Value} {B0:Nat} (hB:B0≤B) (hn:bn (mask (vG B W) W) t a b c):bn (mask (nX B0 v W) W) t a b c:=
 hn.keep (bF fun _ _ hf hv=>⟨⟨⟨Nat.le_trans hB hf.1,hf.2⟩,fun e=>by have:=h _ e.symm;have:=hf.1;omega⟩,hv⟩)
def Si (w:World) (l:List ay) (e:Ending) (w':World):Prop:=∃a b c,e=.returned (.agg #[a,b,c])∧bn (mask (vG w.heap.size w') w') (iN l) a b c∧Bw w w'
def adT (w:World) (l:List ay) (np:Nat) (i:Value) (wr:World):Prop:=
 ∃(k:Nat) (kv vv:Value),k≤np∧i=.int .i64 k∧cL wr w.heap.size (.slice none 0 0) (.slice none 0 0) (.slice none 0 0)∧cL wr (w.heap.size+1) kv vv (.slice none 0 0)∧wr.ownsRow (w.heap.size+1+1) 3 1 kv k (bw ((l.take k).map Prod.fst))∧wr.ownsRow (w.heap.size+1+1) 3 1 vv k (bw ((l.take k).map Prod.snd))∧eo kv vv∧eo vv kv∧Bw w wr
theorem Hd (l:List ay) (v1:Value) (w:World) (h1:dW w v1 l) (h4:l.length≤4) (iL:FQ l):Calls prog 45 #[v1] w (Si w l):=by
 obtain ⟨p,cp,rfl,a1,a2,ha⟩:=h1;obtain ⟨n,hn⟩:=aG l.length;rw[hn] at a1 h4;rw[hn];have HN:=aa hn;have HA:=aa ha;have H4:=aa h4;have fJ:=aa iL;have h4i:(n:Int)≤4:=by omega
 have hlc:(n:Int)≤9223372036854775807:=by omega
 clear hn a1 a2 ha h4 iL;go_enter func45,ntmps45;go_wp2_with fail;go_loopw [4] (fun i wr=>adT w l n i wr) (fun i _=>n-(intOf i).toNat)
 case atStart=>
  refine ⟨0,_,_,dO,rfl,?_,?_,World.ownsRow_nil _ _ _ _,World.ownsRow_nil _ _ _ _,.inl rfl,.inl rfl,(ar).alloc (by simp) _⟩
  ·exact (cL.new w _ _ _).below (ar)
  ·have:=cL.new (w.alloc (.cells #[.slice none 0 0,.slice none 0 0,.slice none 0 0] 73)) (.slice none 0 0) (.slice none 0 0) (.slice none 0 0)
   simpa using this
 case round=>
  obtain ⟨j,kv,vv,hj,rfl,hres,fI,Hc,hrv,hap,Zc,hb⟩:=hrel;obtain ⟨pk,nk,ck,rfl⟩:=jA Hc;obtain ⟨pv,nv,cv,rfl⟩:=jA hrv;have sB:=aa fI;have Jw:=aa Hc;have HRV:=aa hrv;have HB:=aa hb;have Nn:=aa hres;by_cases hlt:j<n
  case neg=>
   obtain rfl:j=n:=by omega
   have Q1:decide ((j:Int)<(j:Int))=false:=(by simp);obtain ⟨x0,x1,x2⟩:=fI.cells;obtain ⟨d0,d1,d2⟩:=hres.cells;have f0:=hres.frozen 0;have f1:=hres.frozen 1;have f2:=hres.frozen 2;have adN:=hres.lt;clear fI Hc hrv hb hres hap Zc;have HT:=aa (show l.take j=l from List.take_of_length_le (by rw[HN.o];exact aT));go_wp2_with fail;have Y7:Bw w (((wr.setCell ⟨w.heap.size,0,none⟩ (.slice pk nk ck)).setCell ⟨w.heap.size,1,none⟩ (.slice pv nv cv)).setCell ⟨w.heap.size,2,none⟩ (.slice none 0 0)):=eM (eM (eM HB 0 _) 1 _) 2 _;have iZ:w.heap.size<w.heap.size+1+1:=by omega
   have Sh:=eO (j:=2) (u:=.slice none 0 0) (eO (j:=1) (u:=.slice pv nv cv) (eO (j:=0) (u:=.slice pk nk ck) Jw iZ) iZ) iZ;have hvF:=eO (j:=2) (u:=.slice none 0 0) (eO (j:=1) (u:=.slice pv nv cv) (eO (j:=0) (u:=.slice pk nk ck) HRV iZ) iZ) iZ;obtain ⟨k0,k1,k2⟩:=(((Nn.qw (.slice pk nk ck)).zw (.slice pv nv cv)).yt (.slice none 0 0)).cells;obtain ⟨WF,hWF⟩:∃W,((wr.setCell ⟨w.heap.size,0,none⟩ (.slice pk nk ck)).setCell ⟨w.heap.size,1,none⟩ (.slice pv nv cv)).setCell ⟨w.heap.size,2,none⟩ (.slice none 0 0)=W:=⟨_,rfl⟩
   rw[hWF] at Y7 Sh hvF k0 k1 k2 ⊢;refine bodyPost_ret (v:=.agg #[.slice pk nk ck,.slice pv nv cv,.slice none 0 0]) (by simp[results,results45,go_sem,k0,k1,k2]) rfl ?_;rw[HT.o] at Sh hvF;refine ⟨_,_,_,rfl,?_,Y7⟩;exact (Vn (W:=WF) (B:=w.heap.size+1+1) (B0:=w.heap.size) fJ (by rw[HN.o];exact Sh) (by rw[HN.o];exact hvF) (by omega) (v:=.slice none 0 0) (fun k hk=>by simp[Value.ownBlock] at hk)).keep (bF fun _ _ hf hu=>⟨hf.1,hu⟩)
  case pos=>
   have Gg:(j:Int)<(n:Int):=(by omega);have YT:=CW hj (show n≤1000000 by have:=H4.o;omega);obtain ⟨s,hs⟩:=fx (l:=l) (k:=j) (by rw[HN.o];exact hlt);obtain ⟨g',o',rfl,e1,e2⟩:=HA.o j s hs;have r1:=ae hb e1;have r2:=ae hb e2;have HS:=aa hs;obtain ⟨x0,x1,x2⟩:=fI.cells;have x0b:(wr.alloc (.cells #[.int .i64 s.1] 3)).cell? ⟨w.heap.size+1,0,none⟩=some (.slice pk nk ck):=ae (ar) x0;obtain ⟨g1,c1,w2,ra1,bx1,VJ,Y8,Y9,adW,kc1⟩:=Rn (W:=wr.drew) s.1 fI (World.ownsRow.drew Hc) (show j≤1000000 by have:=H4.o;omega);obtain ⟨rv1,ap1,ap2⟩:=adW _ _ _ (World.ownsRow.drew hrv) Zc;have f0:=bx1.frozen 0;have d0:=bx1.cells.1;obtain ⟨w3,hw3⟩:∃W,w2.setCell ⟨w.heap.size+1,0,none⟩ (.slice (some ⟨g1,0,none⟩) (j+1) c1)=W:=⟨_,rfl⟩
   rw[hw3] at VJ Y8 Y9 rv1;obtain ⟨g2,c2,w4,ra2,Za,bx4,ro2,bl2,adY,kc2⟩:=Ro (W:=w3.drew) s.2 VJ (World.ownsRow.drew rv1) (show j≤1000000 by have:=H4.o;omega);obtain ⟨rk2,ap3,ap4⟩:=adY _ _ _ (World.ownsRow.drew Y8) ap2;have vE:=aa (show Below (w.heap.size+1) wr w3 from aH.drew.trans Y9);have gI:=aa (show Below (w.heap.size+1) w3 _ from aH.drew.trans bl2);have mN:=aa (show w.heap.size+1<wr.heap.size from fI.lt);have pB:=aa (show w3.cell? ⟨g',o'+j*2+1,none⟩=some (.int .i64 s.2) from by
    have hlt:=World.block_lt_of_cell? _ _ e2;exact (vE.cell (by simp only at hlt ⊢;omega)).trans r2)
   obtain ⟨_,y1,_⟩:=VJ.cells;obtain ⟨_,d1,_⟩:=Za.cells;have f1:=Za.frozen 1;have y1b:(w3.alloc (.cells #[.int .i64 s.2] 3)).cell? ⟨w.heap.size+1,1,none⟩=some (.slice pv nv cv):=ae (ar) y1;have HY:=aa (And.intro y1 (And.intro d1 (And.intro f1 y1b)));have Gv:=aa ra1;have Zb:=aa ra2;have jK:=aa bx4;have ajK:=aa rk2;have ajL:=aa ro2;have adZ:=aa (And.intro ap3 ap4);clear ra1 ra2 bx1 VJ Za bx4 Y8 ro2 Y9 bl2 adW adY kc1 kc2 rv1 rk2 ap1 ap2 ap3 ap4 fI Hc hrv hap Zc hb hres hs e1 e2 y1 d1 f1 y1b r2;go_upto_region 6 with fail;have HW3:=aa hw3;clear hw3;go_region_law (refine bD rfl _ _ _ rfl rfl rfl Gv.o ?_)
   all_goals
    rw[HW3.o];clear r1 x0 x1 x2 x0b f0 d0;have r2:=pB.o;obtain ⟨y1,d1,f1,y1b⟩:=HY.o;go_upto_region 7 with fail;go_region_law (refine bD rfl _ _ _ rfl rfl rfl Zb.o ?_)
    all_goals
     clear r2 y1 d1 f1 y1b;go_wp2_with fail;go_roundw
     case rel=>
      refine ⟨j+1,_,_,hlt,by go_num,Nn.o.low (vE.o.trans gI.o) (Nat.lt_succ_self _),jK.o,?_,?_,adZ.o.1,adZ.o.2,HB.o.trans ((vE.o.trans gI.o).mono (Nat.le_succ _))⟩
      ·rw[wh _ HS.o];exact ajK.o
      ·rw[wh _ HS.o];exact ajL.o
     case measure=>first|exact dQ hlt|(have hm:=dQ hlt;rw[← YT] at hm;exact hm)
theorem Sj (l:List ay) (v1:Value) (w:World) (h1:dW w v1 l) (h4:l.length≤4) (iL:FQ l):Calls prog 45 #[v1] w (vH w l):=
 (Hd l v1 w h1 h4 iL).mono fun _ _ ⟨a,b,c,he,hn,hb⟩=>⟨_,a,b,c,he,Kp h4,hn,hb⟩
def stepT (n f:Nat):Nat:=if n-f=3 then 3 else 2
def jq {α:Type}:List α→List (List α)
 |[]=>[]
 |[a]=>[[a]]
 |[a,b]=>[[a,b]]
 |[a,b,c]=>[[a,b,c]]
 |a::b::r=>[a,b]::jq r
theorem He {α:Type}:∀l:List α,(jq l).flatten=l
 |[]=>rfl
 |[a]=>rfl
 |[a,b]=>rfl
 |[a,b,c]=>rfl
 |a::b::c::d::r=>by have:=He (c::d::r);simp only[jq,List.flatten_cons,this];rfl
theorem Mu {α:Type}:∀l:List α,2≤l.length→∀p∈jq l,2≤p.length∧p.length≤3
 |[],h=>by simp at h
 |[a],h=>by simp at h
 |[a,b],_=>fun p hp=>by simp[jq] at hp;subst hp;simp
 |[a,b,c],_=>fun p hp=>by simp[jq] at hp;subst hp;simp
 |a::b::c::d::r,_=>fun p hp=>by
  simp only[jq,List.mem_cons] at hp;rcases hp with rfl|hp
  ·simp
  ·exact Mu (c::d::r) (by simp) p hp
theorem Ay {α:Type}:∀l:List α,2≤l.length→2*(jq l).length≤l.length∧1≤(jq l).length
 |[],h=>by simp at h
 |[a],h=>by simp at h
 |[a,b],_=>by simp[jq]
 |[a,b,c],_=>by simp[jq]
 |a::b::c::d::r,_=>by have:=Ay (c::d::r) (by simp);simp only[jq,List.length_cons] at this ⊢;omega
theorem N0 {α:Type} {l:List α} (h2:f+2≤l.length):jq (l.drop f)=(l.drop f).take (stepT l.length f)::jq (l.drop (f+stepT l.length f))∧(f+stepT l.length f=l.length∨f+stepT l.length f+2≤l.length∨f+stepT l.length f+1=l.length):=by
 obtain ⟨d,hd⟩:=aG (l.drop f);have hl:d.length=l.length-f:=by rw[← hd];simp
 rw[← List.drop_drop,hd]
 match d,hl with
 |[],h=>simp at h;omega
 |[a],h=>simp at h;omega
 |[a,b],h=>
  have e:stepT l.length f=2:=by unfold stepT;simp at h;rw[if_neg (by omega)]
  rw[e];simp at h;exact ⟨rfl,by omega⟩
 |[a,b,c],h=>
  have e:stepT l.length f=3:=by unfold stepT;simp at h;rw[if_pos (by omega)]
  rw[e];simp at h;exact ⟨rfl,by omega⟩
 |a::b::c::d::r,h=>
  simp only[List.length_cons] at h;have e:stepT l.length f=2:=by unfold stepT;rw[if_neg (by omega)]
  rw[e];exact ⟨rfl,by omega⟩
theorem Mv {α:Type} {l:List α} (h:2≤l.length):Sg l (jq l):=by have:=Ay l h;exact ⟨He l,⟨this.2,by omega,fun _=>this.1⟩,fun p hp=>by have:=Mu l h p hp;omega⟩
theorem Az {α:Type}:∀l:List α,l.length≤2*(jq l).length+1
 |[]=>by simp
 |[a]=>by simp[jq]
 |[a,b]=>by simp[jq]
 |[a,b,c]=>by simp[jq]
 |a::b::c::d::r=>by have:=Az (c::d::r);simp only[jq,List.length_cons] at this ⊢;omega
theorem Hf {α:Type} {l:List α} (h:f=l.length):jq (l.drop f)=[]:=by subst h;rw[List.drop_length];rfl
theorem CX {α:Type} {l:List α} (hn:l.length=n) (h2:f+2≤n):∃k,(k=2∧n-f≠3∨k=3∧n-f=3)∧f+k≤n∧(f+k=n∨f+k+2≤n)∧jq (l.drop f)=(l.drop f).take k::jq (l.drop (f+k)):=by
 subst hn;have h:=(N0 h2).1;by_cases h3:l.length-f=3
 ·exact ⟨3,.inr ⟨rfl,h3⟩,by omega,by omega,by rw[h];unfold stepT;rw[if_pos h3]⟩
 ·exact ⟨2,.inl ⟨rfl,h3⟩,by omega,by omega,by rw[h];unfold stepT;rw[if_neg h3]⟩
theorem N3 {g o c:Nat} (h:∀i x,l[i]?=some x→∃g' o',some (⟨g,o,none⟩:Addr)=some ⟨g',o',none⟩∧w.cell? ⟨g',o'+i*2,none⟩=some (.int .i64 x.1)∧w.cell? ⟨g',o'+i*2+1,none⟩=some (.int .i64 x.2)) (hn:l.length=n) (hc:n≤c) (hc2:c≤maxLen) (hk:f+k≤n):dW w (.slice (some ⟨g,o+f*2,none⟩) k (c-f)) ((l.drop f).take k):=by
 have hl:((l.drop f).take k).length=k:=by rw[List.length_take,List.length_drop,hn];omega
 refine ⟨_,c-f,by rw[hl],by rw[hl];omega,by omega,fun i x hx=>?_⟩;have hi:i<k:=by have:=(List.getElem?_eq_some_iff.1 hx).1;omega
 rw[List.getElem?_take,if_pos hi,List.getElem?_drop] at hx;obtain ⟨g',o',e,e1,e2⟩:=h _ _ hx;injection e with e;injection e with e e';subst e;subst e';refine ⟨g,o+f*2,rfl,?_,?_⟩
 ·rw[show o+f*2+i*2=o+(f+i)*2 by omega];exact e1
 ·rw[show o+f*2+i*2+1=o+(f+i)*2+1 by omega];exact e2
theorem VK (h:FQ l) (f k:Nat):FQ ((l.drop f).take k):=fun x hx=>h x (List.mem_of_mem_drop (List.mem_of_mem_take hx))
theorem VM {g:Nat} {l:List ag} (h:∀j t,l[j]?=some t→pV w (some ⟨g,0,none⟩) j t):∀j t,((l.drop f).take k)[j]?=some t→pV w (some ⟨g,f*3,none⟩) j t:=by
 intro j t hj;rw[List.getElem?_take] at hj
 split at hj
 ·rw[List.getElem?_drop] at hj
  obtain ⟨g',o',x,y,z,e,e1,e2,e3,e4⟩:=h _ _ hj;injection e with e;injection e with e e';subst e;subst e';rw[Nat.zero_add,show (f+j)*3=f*3+j*3 by omega] at e1 e2 e3;exact ⟨g,f*3,x,y,z,rfl,e1,e2,e3,e4⟩
 ·simp at hj
theorem CY {B D:Nat} (hD:D≤w.heap.size):gz (w.alloc (.cells #[] 73)) B D (.slice (some ⟨w.heap.size,0,none⟩) 0 0) []:=by
 refine ⟨[],rfl,?_,fun x h=>by simp at h⟩;have:=World.ownsRow_made w #[] 0 (base:=D) (e:=73) (size:=3) hD (by unfold maxLen;omega) rfl
 simpa [oQ] using this
def ad0 (w:World) (l:List ay) (n:Nat) (v i:Value) (wr:World):Prop:=
 ∃(f:Nat) (L:List (List ay)),f≤n∧i=.int .i64 f∧L++jq (l.drop f)=jq l∧(f=n∨f+2≤n)∧L.length≤f∧gz wr (w.heap.size+1) (w.heap.size+1) v (L.map iN)∧cL wr w.heap.size (.slice none 0 0) (.slice none 0 0) (.slice none 0 0)∧Bw w wr
def Kq (w:World) (l:List ay) (k:Nat) (v:Value) (wr:World):Prop:=
 2≤k∧k≤1000000∧∃(row:List ag) (d:Nat),row.length=k∧Cy row l d∧gz wr (w.heap.size+1) (w.heap.size+1) v row∧cL wr w.heap.size (.slice none 0 0) (.slice none 0 0) (.slice none 0 0)∧Bw w wr
def ad1 (w wq:World) (row:List ag) (m:Nat) (v i:Value) (wr:World):Prop:=
 ∃(f:Nat) (L:List (List ag)),f≤m∧i=.int .i64 f∧L++jq (row.drop f)=jq row∧(f=m∨f+2≤m)∧L.length≤f∧gz wr (w.heap.size+1) wq.heap.size v (L.map jB)∧Bw wq wr
theorem CZ (h:f+k≤n) (hk:1≤k):n-(intOf (.int .i64 ((f+k:Nat):Int))).toNat<n-(intOf (.int .i64 (f:Int))).toNat:=by simp only[intOf];omega
theorem C0 (h:f+k≤n) (h2:n≤1000000):wrap64 ((n:Int)-(f:Int))=((n-f:Nat):Int)∧wrap64 ((f:Int)+(k:Int))=((f+k:Nat):Int):=by
 constructor
 ·unfold wrap64;omega
 ·unfold wrap64;omega
theorem Sk (l:List ay) (v1:Value) (w:World) (h1:dW w v1 l) (h4:4<l.length) (hlen:l.length≤900000) (iL:FQ l):Calls prog 45 #[v1] w (vH w l):=by
 have fJ:=aa iL;obtain ⟨p,c,rfl,a1,a2,ha⟩:=h1;obtain ⟨g,o,rfl⟩:∃g o,p=some ⟨g,o,none⟩:=by obtain ⟨g,o,e,_⟩:=ha 0 _ (List.getElem?_eq_getElem (by omega));exact ⟨g,o,e⟩
 obtain ⟨n,hn⟩:=aG l.length;rw[hn] at a1 h4 hlen;rw[hn];have HN:=aa hn;have HA:=aa ha;have rY:=aa (And.intro h4 hlen);have HC:=aa (And.intro a1 a2);have h4i:¬(n:Int)≤4:=by omega
 have hlc:(n:Int)≤9223372036854775807:=by omega
 clear hn ha hlen iL a1 a2;go_enter func45,ntmps45;go_wp2_with fail;clear h4i h4;go_loopw [5,6] (fun v i wr=>ad0 w l n v i wr) (fun _ i _=>n-(intOf i).toNat)
 case atStart=>
  refine ⟨0,[],dO,rfl,by rw[List.drop_zero];rfl,.inr (by have:=rY.o;omega),aT,?_,(cL.new w _ _ _).below (ar),(ar).alloc (by simp) _⟩;have:=CY (w:=w.alloc (.cells #[.slice none 0 0,.slice none 0 0,.slice none 0 0] 73)) (B:=w.heap.size+1) (D:=w.heap.size+1) (by simp)
  simpa using this
 case round=>
  obtain ⟨f,L,hf,rfl,Sm,hend,hLf,rG,hz,hb⟩:=hrel;obtain ⟨nr,Zd⟩:∃q,L.length=q:=⟨_,rfl⟩
  obtain ⟨pr,cr,rfl⟩:=rG.Rp (n:=nr) (by rw[List.length_map];exact Zd);have Sn:=aa Sm;have yu:=aa rG;have HZ:=aa hz;have HB:=aa hb;have BF:=aa (And.intro Zd hLf);clear Sm rG hz hb Zd hLf;by_cases hlt:f<n
  case pos=>
   obtain ⟨k,hk,G3,hke,hstep⟩:=CX HN (show f+2≤n by omega);have hfi:(f:Int)<(n:Int):=by omega
   obtain ⟨hi,FX⟩:∃q,f+k=q:=⟨_,rfl⟩
   obtain ⟨w1,w2⟩:=C0 G3 (show n≤1000000 by have:=rY.o;omega);rw[FX] at w2;have HK:=aa hk;have JV:=aa (And.intro G3 (And.intro hke FX));have pH:=aa hstep;have HPA:=aa (N3 (f:=f) (k:=k) (fun i x hx=>by obtain ⟨g',o',e,e1,e2⟩:=HA.o i x hx;exact ⟨g',o',e,ae HB e1,ae HB e2⟩) HN HC.1 HC.2 G3);have QG:=aa (VK fJ f k);have nU:=aa (show ((l.drop f).take k).length≤4 by rw[List.length_take];omega);obtain ⟨q,hq⟩:=aG ((l.drop f).take k);rw[hq] at HPA QG nU pH;obtain ⟨s3,s1,s2,s4,s5,s6,s8,s9,s10⟩:=xm FX (show hi≤n by omega) HC.1 (show 1≤k by omega);have S3:=aa s3;have FH:1≤k:=by omega
   have HM:=aa (CZ G3 FH);rw[FX] at HM;clear G3 hke hstep hq FX hend s3 FH w1;rcases hk with ⟨rfl,h3⟩|⟨rfl,h3⟩
   all_goals
    first
    |(have hd3:((n:Int)-(f:Int)==3)=false:=by simp only[beq_eq_false_iff_ne,ne_eq];omega
      have hw3:wrap64 ((f:Int)+2)=(hi:Int):=w2;have hcc:(f:Int)+2≤(c:Int):=by have:=JV.o;omega)
    |(have hd3:((n:Int)-(f:Int)==3)=true:=by simp only[beq_iff_eq];omega
      have hw3:wrap64 ((f:Int)+3)=(hi:Int):=w2;have hcc:(f:Int)+3≤(c:Int):=by have:=JV.o;omega)
    go_wp2_with fail
    try rw[S3.o]
    refine (Hd q _ _ HPA nU QG).mono ?_;rintro e w3 ⟨xa,xb,xc,rfl,Mw,hb3⟩;obtain ⟨qa,na,ca,qb,nb,cb,qc,nc,cc,rfl,rfl,rfl⟩:=aZ Mw;have Hg:=aa Mw;have dF:=aa hb3;clear Mw hb3;obtain ⟨g6,c6,w6,hrun,Hh,cV⟩:=CF w3 (w.heap.size+1) (w.heap.size+1) nr _ _ (iN q) _ _ _ (yu.below dF) (by rw[List.length_map];exact BF.1) (by have:=BF.o;have:=rY.o;omega) (Nat.le_trans HZ.lt dF.size) (NZ (fun k hk=>(yu.block k hk).2) (Nat.le_of_lt HZ.lt |> fun h=>by have:=HZ.lt;omega) Hg);have dJ:=aa hrun;have Fg:=aa Hh;have cU:=aa ((HB.trans (gS dF HB.size)).trans (cV.mono (Nat.le_succ _)));have Hb:=aa ((HZ.below dF).low cV (Nat.lt_succ_self _));have Ze:=aa (show hi≤n∧(hi=n∨hi+2≤n)∧f+1≤hi by have:=JV.o;omega);clear hrun Hh cV hd3 s1 s2 s4 s5 s6 s8 s9 s10;go_wp2_with (at_builtin;refine Lib.wpList_append_run _ rfl _ _ _ _ rfl _ _ rfl rfl _ _ dJ.o ?_);go_roundw
    case rel=>exact ⟨hi,L++[q],Ze.1,by have hh:=JV.2.2;(first|(go_num;done)|(congr 1;omega)),by rw[← Sn.o,pH.o,JV.o.2.2];simp,Ze.o.2.1,by rw[List.length_append];have h1:=Ze.o.2.2;have h2:=BF.o.2;simp only[List.length_cons,List.length_nil];omega,by rw[List.map_append];exact Fg.o,Hb.o,cU.o⟩
    case measure=>first|exact HM|(have hm:=HM.o;first|(rw[← hw3] at hm;exact hm)|(rw[← JV.o.2.2] at hm;push_cast at hm;exact hm))
  case neg=>
   obtain rfl:f=n:=by omega
   have Q1:decide ((f:Int)<(f:Int))=false:=(by simp);have hL:L=jq l:=by have:=Sn.o;rw[Hf HN.o.symm,List.append_nil] at this;exact this
   have Sp:=Az l;rw[← hL,BF.o.1,HN.o] at Sp;have hok:Cy ((jq l).map iN) l 1:=NY (by rw[HN.o];have:=rY.o;omega) (by rw[HN.o];have:=rY.o;omega) (Mv (by rw[HN.o];have:=rY.o;omega));have VN:=aa (show Kq w l nr (.slice pr nr cr) wr from ⟨by have:=rY.o;omega,by have:=rY.o;have h1:=BF.2;rw[BF.o.1] at h1;omega,_,_,by rw[List.length_map,← hL];exact BF.1,hok,by rw[← hL];exact yu,HZ,HB⟩);clear hL Sp hok hend;go_wp2_with fail;go_loopg [5] nr (fun k v wr=>Kq w l k v wr)
   case atStart=>exact VN.o
   case round=>
    obtain ⟨h2,hgk,row,d,hrl,hok,rG,hz,hb⟩:=hrel;obtain ⟨pr2,cr2,rfl,hs1,hs2,hs3⟩:=rG.shape;have BG:=aa hok;have zS:=aa hrl;have Hi:=aa (And.intro h2 hgk);have Zf:=aa rG;have sq:=aa hz;have dF:=aa hb;rw[hrl] at hs1 ⊢;have Ug:=aa (And.intro hs1 (And.intro hs2 hs3));clear hgk hok rG hz hb VN HB yu HZ hs1 hs2 hs3;obtain ⟨g7,e7,_⟩:=Zf.kid aT 0 _ (List.getElem?_eq_getElem (by rw[zS.o];omega));subst e7;have QX:=aa (show ∀j t,row[j]?=some t→pV (mask (vG (w.heap.size+1) wr) wr) (some ⟨g7,0,none⟩) j t from fun j t hj=>by
     obtain ⟨g8,e8,h8⟩:=Zf.kid aT j t hj;injection e8 with e8;injection e8 with e8 e9;subst e8;exact h8)
    obtain ⟨wo,Qo⟩:∃W,W=wr:=⟨_,rfl⟩
    rw[← Qo] at Zf sq dF Ug QX ⊢;clear Qo;by_cases h4:gk≤4
    case pos=>
     have h4i:¬(4:Int)<(gk:Int):=(by omega);obtain ⟨d0,d1,d2⟩:=sq.cells;have f0:=sq.frozen 0;have f1:=sq.frozen 1;have f2:=sq.frozen 2;have hab:=Aw row (w.heap.size+1) wo.heap.size g7 0 cr2 wo (by rw[zS.o];omega) (by rw[zS.o];have:=Hi.o;omega) sq.lt aT BG.keys (fun j t hj=>Gz (QX j t hj) (Mc aH));rw[zS.o] at hab;have HAB:=aa hab;have zy:=aa (show Grown l (jB row) from Nr (CV (L:=[row]) BG (by rw[zS.o];exact h2) ⟨by simp,⟨by simp,by simp only[List.length_cons,List.length_nil];rw[zS.o];omega,fun _=>by simp only[List.length_cons,List.length_nil];rw[zS.o];omega⟩,fun p hp=>by simp only[List.mem_cons,List.not_mem_nil,or_false] at hp;subst hp;rw[zS.o];exact ⟨by omega,h4,fun h=>h⟩⟩) rfl);clear hab h4 d0 d1 d2 f0 f1 f2;go_wp2_with fail;refine HAB.mono ?_;rintro e w3 ⟨xa,xb,xc,rfl,hn,hb3⟩;have Mw:=hn (.slice none 0 0) (fun k hk=>by simp[Value.ownBlock] at hk);obtain ⟨px,nx,cx,py,ny,cy,pz,nz,cz,rfl,rfl,rfl⟩:=aZ Mw;have HN7:=aa (show bn (mask (vG (w.heap.size+1) w3) w3) (jB row) (.slice px nx cx) (.slice py ny cy) (.slice pz nz cz) from Mw.keep (bF fun _ _ hf hu=>⟨hf.1,hu⟩));have pS:=aa (sq.below hb3);have fW:=bh dF hb3;obtain ⟨d0,d1,d2⟩:=pS.cells;have f0:=pS.frozen 0;have f1:=pS.frozen 1;have f2:=pS.frozen 2;clear hn Mw hb3;go_wp2_with fail;have adN:w.heap.size<w3.heap.size:=pS.lt;have Xe:=eM (eM (eM fW 0 (.slice px nx cx)) 1 (.slice py ny cy)) 2 (.slice pz nz cz);have hNF:=((HN7.keep (zG (av w3 w.heap.size 0 (.slice px nx cx)) (Nat.lt_succ_self _) aT)).keep (zG (av _ w.heap.size 1 (.slice py ny cy)) (Nat.lt_succ_self _) aT)).keep (zG (av _ w.heap.size 2 (.slice pz nz cz)) (Nat.lt_succ_self _) (Nat.le_succ _));obtain ⟨k0,k1,k2⟩:=(((pS.qw (.slice px nx cx)).zw (.slice py ny cy)).yt (.slice pz nz cz)).cells;obtain ⟨WF,hWF⟩:∃W,((w3.setCell ⟨w.heap.size,0,none⟩ (.slice px nx cx)).setCell ⟨w.heap.size,1,none⟩ (.slice py ny cy)).setCell ⟨w.heap.size,2,none⟩ (.slice pz nz cz)=W:=⟨_,rfl⟩
     rw[hWF] at Xe hNF k0 k1 k2 ⊢;refine bodyPost_ret (v:=.agg #[.slice px nx cx,.slice py ny cy,.slice pz nz cz]) (by simp[results,results45,go_sem,k0,k1,k2]) rfl ?_;exact ⟨_,_,_,_,rfl,zy,hNF,Xe⟩
    case neg=>
     have h4i:(4:Int)<(gk:Int):=(by omega);have Qj:=aa (show 4<gk by omega);have hlg:(gk:Int)≤9223372036854775807:=by have:=Hi.o;omega
     clear h4;go_wp2_with fail;clear h4i;go_loopw [8,9] (fun v i wr=>ad1 w wo row gk v i wr) (fun _ i _=>gk-(intOf i).toNat)
     case atStart=>exact ⟨0,[],dO,rfl,by rw[List.drop_zero];rfl,.inr (by have:=Qj.o;omega),aT,CY aT,ar⟩
     case round=>
      obtain ⟨f,L,hf,rfl,Sm,hend,hLf,rG,hb⟩:=hrel;obtain ⟨nr,Zd⟩:∃q,L.length=q:=⟨_,rfl⟩
      obtain ⟨pr,cr,rfl⟩:=rG.Rp (n:=nr) (by rw[List.length_map];exact Zd);have Sn:=aa Sm;have yu:=aa rG;have HB:=aa hb;have BF:=aa (And.intro Zd hLf);clear Sm rG hb Zd hLf;by_cases hlt:f<gk
      case pos=>
       obtain ⟨k,hk,G3,hke,hstep⟩:=CX zS (show f+2≤gk by omega);have hfi:(f:Int)<(gk:Int):=by omega
       obtain ⟨hi,FX⟩:∃q,f+k=q:=⟨_,rfl⟩
       obtain ⟨w1,w2⟩:=C0 G3 (show gk≤1000000 by have:=Hi.o;omega);rw[FX] at w2;have JV:=aa (And.intro G3 (And.intro hke FX));have pH:=aa hstep;have L9:=aa (show gk≤cr2 from Ug.1);have UO:=aa (VM (f:=f) (k:=k) (fun j t hj=>Gz (QX j t hj) (Mc HB)));have HQK:=aa (show ∀t∈(row.drop f).take k,1≤t.keys.length from fun t ht=>BG.keys t (List.mem_of_mem_drop (List.mem_of_mem_take ht)));have nU:=aa (show ((row.drop f).take k).length=k by rw[List.length_take,List.length_drop,zS.o];omega);obtain ⟨q,hq⟩:=aG ((row.drop f).take k);rw[hq] at UO HQK nU pH;obtain ⟨s3,s1,s2,s4,s5,s6,s8,s9,s10⟩:=xm FX (show hi≤gk by omega) Ug.1 (show 1≤k by omega);have S3:=aa s3;have FH:1≤k:=by omega
       have hk3:k≤3:=(by omega);have HM:=aa (CZ G3 FH);rw[FX] at HM;have hab:=Aw q (w.heap.size+1) wo.heap.size g7 (f*3) (cr2-f) wr (by rw[nU.o];exact FH) (by rw[nU.o];omega) sq.lt HB.size HQK UO.o;rw[nU.o] at hab;have HAB:=aa hab;clear G3 hke hstep hq FX hend s3 FH w1 hk3 hab;rcases hk with ⟨rfl,h3⟩|⟨rfl,h3⟩
       all_goals
        first
        |(have hd3:((gk:Int)-(f:Int)==3)=false:=by simp only[beq_eq_false_iff_ne,ne_eq];omega
          have hw3:wrap64 ((f:Int)+2)=(hi:Int):=w2;have hcc:(f:Int)+2≤(cr2:Int):=by have:=JV.o;have:=L9.o;omega)
        |(have hd3:((gk:Int)-(f:Int)==3)=true:=by simp only[beq_iff_eq];omega
          have hw3:wrap64 ((f:Int)+3)=(hi:Int):=w2;have hcc:(f:Int)+3≤(cr2:Int):=by have:=JV.o;have:=L9.o;omega)
        go_wp2_with fail
        try rw[S3.o]
        refine HAB.mono ?_;rintro e w3 ⟨xa,xb,xc,rfl,hn,hb3⟩;have Mw:=hn (.slice pr nr cr) (fun b Sq=>yu.block b Sq);obtain ⟨qa,na,ca,qb,nb,cb,qc,nc,cc,rfl,rfl,rfl⟩:=aZ Mw;have aq3:=aa hb3;obtain ⟨g6,c6,w6,hrun,Hh,cV⟩:=CF w3 (w.heap.size+1) wo.heap.size nr _ _ (jB q) _ _ _ (yu.below hb3) (by rw[List.length_map];exact BF.1) (by have h1:=BF.2;rw[BF.o.1] at h1;have:=Hi.o;omega) (Nat.le_trans HB.size hb3.size) Mw;have dJ:=aa hrun;have Fg:=aa Hh;have cU:=aa ((HB.trans (gS hb3 HB.size)).trans cV);have Ze:=aa (show hi≤gk∧(hi=gk∨hi+2≤gk)∧f+1≤hi by have:=JV.o;omega);clear hrun Hh cV hd3 s1 s2 s4 s5 s6 s8 s9 s10 hn Mw hb3;go_wp2_with (at_builtin;refine Lib.wpList_append_run _ rfl _ _ _ _ rfl _ _ rfl rfl _ _ dJ.o ?_);go_roundw
        case rel=>exact ⟨hi,L++[q],Ze.1,by have hh:=JV.2.2;(first|(go_num;done)|(congr 1;omega)),by rw[← Sn.o,pH.o,JV.o.2.2];simp,Ze.o.2.1,by rw[List.length_append];have h1:=Ze.o.2.2;have h2:=BF.o.2;simp only[List.length_cons,List.length_nil];omega,by rw[List.map_append];exact Fg.o,cU.o⟩
        case measure=>first|exact HM|(have hm:=HM.o;first|(rw[← hw3] at hm;exact hm)|(rw[← JV.o.2.2] at hm;push_cast at hm;exact hm))
      case neg=>
       obtain rfl:f=gk:=by omega
       have Q1:decide ((f:Int)<(f:Int))=false:=(by simp);have hL:L=jq row:=by have:=Sn.o;rw[Hf zS.o.symm,List.append_nil] at this;exact this
       have Sp:=Az row;have hup:=(Ay row (by rw[zS.o];exact Hi.1)).1;rw[← hL,BF.o.1,zS.o] at Sp hup;have FV:Kq w l nr (.slice pr nr cr) wr:=⟨by have:=Qj.o;omega,by have:=Hi.o;omega,(jq row).map jB,d+1,by rw[List.length_map,← hL];exact BF.1,CV BG (by rw[zS.o];exact Hi.1) (Mv (by rw[zS.o];exact Hi.1)),by rw[← hL];exact yu.mono sq.lt,sq.low HB sq.lt,dF.trans (gS HB dF.size)⟩
       have uC:=aa FV;have Vj:=aa (show nr<f by have:=Qj.o;omega);clear hL Sp hup FV hend;go_wp2_with fail;go_roundg nr
       case measure=>exact Vj.o
       case rel=>exact uC.o
theorem VO (l:List ay) (v1:Value) (w:World) (h1:dW w v1 l) (hlen:l.length≤900000) (iL:FQ l):Calls prog 45 #[v1] w (vH w l):=by
 by_cases h:l.length≤4
 ·exact Sj l v1 w h1 h iL
 ·exact Sk l v1 w h1 (by omega) hlen iL
end Go.Proofs.YtbigkioechkngaaGreat
