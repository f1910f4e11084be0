/- The proof, part 13. -/
import Derived.Test.YtbigkioechkngaaGreatR10
set_option maxRecDepth 100000
set_option maxHeartbeats 8000000
namespace Go.Proofs.YtbigkioechkngaaGreat
open Go.RowKit Tryz
variable {x:Int}{f:List Int}{k:Nat}
theorem oZ (hf:∀x∈f,0≤x) (hs:f.sum≤1000):∀x∈f,x≤1000:=by
 intro x hx;obtain ⟨s,t,rfl⟩:=List.append_of_mem hx;have key:∀l:List Int,(∀x∈l,0≤x)→0≤l.sum:=by
  intro l
  induction l with
  |nil=>intro _;simp
  |cons a l ih=>intro h;have:=ih (fun x hx=>h x (by simp[hx]));have:=h a (by simp);rw[List.sum_cons];omega
 have h1:=key s (fun x hx=>hf x (by simp[hx]));have h2:=key t (fun x hx=>hf x (by simp[hx]));rw[List.sum_append,List.sum_cons] at hs;omega
theorem Hj (k:Nat):List.replicate k (0:Int)++[0]=List.replicate (k+1) 0:=by rw[← List.replicate_succ']
def Oc1 (w:World) (f:List Int) (N:Nat) (vo vl i:Value) (wr:World):Prop:=
 ∃(k n:Nat) (xo xl:Value),k≤N∧i=.int .i64 k∧xo=vo∧xl=vl∧n=(bZ f k).length∧n≤k∧wr.ownsRow w.heap.size 3 1 xo k (bw (List.replicate k 0))∧dB wr w.heap.size xo xl n (bZ f k)∧Bw w wr
def OcS (w:World) (f:List Int) (N n:Nat) (l:List dU) (xo xl:Value) (wr:World):Prop:=
 ∃(fu:Nat) (out:List Int),n≤fu+1∧n≤N∧nG N l out∧oq fu l out=iO f∧wr.ownsRow w.heap.size 3 1 xo N (bw out)∧dB wr w.heap.size xo xl n l∧Bw w wr
def Oc2 (w:World) (f:List Int) (N:Nat) (xo vl:Value) (wr:World):Prop:=
 ∃(n:Nat) (l:List dU) (xl:Value),xl=vl∧OcS w f N n l xo xl wr
def xQ (W:World) (b:Nat) (x y:Int) (v:Value):Prop:=W.cell? ⟨b,0,none⟩=some (.int .i64 x)∧W.cell? ⟨b,1,none⟩=some (.int .i64 y)∧W.cell? ⟨b,2,none⟩=some v
theorem xQ.below {W W':World} {b:Nat} {y:Int} {v:Value} (h:xQ W b x y v) (hb:Bw W W'):xQ W' b x y v:=⟨ae hb h.1,ae hb h.2.1,ae hb h.2.2⟩
theorem xQ.grown {W W':World} {b:Nat} {y:Int} {v:Value} {row:Option Nat} (h:xQ W b x y v) (hg:W.grownBy W' row) (hne:some b≠row):xQ W' b x y v:=⟨hg.cell h.1 hne,hg.cell h.2.1 hne,hg.cell h.2.2 hne⟩
theorem dB.empty (W:World) (B:Nat) (vo:Value) (hB:B≤W.heap.size):dB (W.alloc (.cells #[] 283)) B vo (.slice (some ⟨W.heap.size,0,none⟩) 0 0) 0 []:=
 ⟨[],rfl,rfl,World.ownsRow_made W #[] 0 hB (by unfold maxLen;omega) rfl,fun x hx=>by simp at hx⟩
theorem Sr (h:f[k]?=some x) (hp:0<x):bZ f (k+1)=bZ f k++[⟨x,(k:Nat),[(k:Nat)]⟩]:=by rw[bZ];unfold sJ;rw[h];simp only[Option.getD_some];rw[if_pos hp]
theorem VR (h:f[k]?=some x) (hp:¬0<x):bZ f (k+1)=bZ f k:=by rw[bZ];unfold sJ;rw[h];simp only[Option.getD_some];rw[if_neg hp,List.append_nil]
theorem Ss (f:List Int) (v1:Value) (w:World) (h1:fA w v1 f) (hl:f.length≤300) (hf:∀x∈f,0≤x) (hs:f.sum≤1000):Calls prog 225 #[v1] w fun e w'=>∃v,e=.returned v∧w'.ownsRow w.heap.size 3 1 v f.length (bw (iO f))∧Bw w w':=by
 obtain ⟨p,c,rfl,hc1,hc2,ha⟩:=h1;have HA:=aa ha;have HST:=aa (CM hf hs);have HFX:=aa (oZ hf hs);obtain ⟨N,hN⟩:=aG f.length;rw[hN] at hc1 hl HST;rw[hN];have HN:=aa hN;have HF:=aa hf;have HP:=aa (show oq N (bZ f N) (oV f (bZ f N))=iO f by unfold iO;rw[hN]);have HL:=aa hl;have b1:(N:Int)≤300:=by omega
 have xe:=aa (World.ownsRow_made w #[] 0 (Nat.le_refl w.heap.size) (by unfold maxLen;omega) rfl:(w.alloc (.cells #[] 3)).ownsRow w.heap.size 3 1 (.slice (some ⟨w.heap.size,0,none⟩) 0 0) 0 []);clear ha hN hl hc1 hc2 hf hs;go_enter func225,ntmps225;go_wp2_with fail;have HT0:=aa (dB.empty (w.alloc (.cells #[] 3)) w.heap.size (.slice (some ⟨w.heap.size,0,none⟩) 0 0) (by simp));have Gv:=aa (aL xe (aH.alloc aT (.cells #[] 283)));go_loopw [3,4,5] (fun vo vl i wr=>Oc1 w f N vo vl i wr) (fun _ _ i _=>N-(intOf i).toNat)
 case atStart=>exact ⟨0,0,_,_,dO,rfl,rfl,rfl,rfl,aT,Gv,by simpa [bZ] using HT0.o,(ar).alloc (by simp) _⟩
 case round=>
  obtain ⟨k,n,xo,xl,hk,rfl,rfl,rfl,hn,hnk,hro,htr,hb⟩:=hrel;have ll:=aa hn;have UN:=aa hnk;have Jr:=aa hro;have Zg:=aa htr;have HB:=aa hb;have ad9:=aa (cP htr.choose_spec.2.2.1 hro (by decide));clear hn hnk hro htr hb HT0 Gv xe;by_cases hlt:k<N
  ·have fN:(k:Int)<(N:Int):=by omega
   obtain ⟨x,hx⟩:=fx (l:=f) (k:=k) (by rw[HN.o];exact hlt);obtain ⟨Su,g,o,rfl,r0⟩:=HA.o k x hx;have HX:=aa hx;have ajP:x≤1000:=HFX.o x (List.mem_of_getElem? hx);have xe:=aa r0;replace r0:=ae HB r0;obtain ⟨g2,c2,w2,hrun,bY⟩:=xG wr w.heap.size k xo (List.replicate k 0) 0 Jr (by have:=HL.o;omega) HB.size;have dJ:=aa hrun;have BX:=aa (show w2.ownsRow w.heap.size 3 1 (.slice (some ⟨g2,0,none⟩) (k+1) c2) (k+1) (bw (List.replicate (k+1) 0)) by rw[← Hj,← Ae];exact bY.row);have wu:=aa (Zg.o.out bY.grown ad9 bY.slice);have bS:=aa (HB.trans bY.below);have r1:w2.cell? ⟨g,o+k,none⟩=some (.int .i64 x):=bY.cells _ _ r0 (fun e=>by
    have h1:=(Jr.lt _ e.symm).1;have h2:=World.block_lt_of_cell? _ _ xe.o;simp only at h1 h2;omega)
   clear hrun bY;by_cases hx0:0<x
   ·have Jy:=aa (Sr HX hx0)
    obtain ⟨W3,hW3⟩:∃W,w2.alloc (.cells #[.int .i64 (k:Nat)] 3)=W:=⟨_,rfl⟩
    have hb3:Bw w2 W3:=by rw[← hW3];exact ar
    have pM:W3.ownsRow w2.heap.size 3 1 (.slice (some ⟨w2.heap.size,0,none⟩) 1 1) 1 (bk r9 [(k:Int)]):=by rw[← hW3,rJ];exact Rb w2 _ 1 1 _ #[.int .i64 (k:Nat)] aT (by unfold maxLen;omega) rfl
    obtain ⟨xs,x1,x2,x3,x4⟩:=wu.below hb3;have zt:=(BX.lt g2 rfl).2;have FV:dw (mask (El (.slice (some ⟨g2,0,none⟩) (k+1) c2) xl) W3) (.slice (some ⟨w2.heap.size,0,none⟩) 1 1) 1 r9 [(k:Int)]:=
     ou uF rfl pM (fun b hb=>by
      simp only[Value.ownBlock,Option.some.injEq] at hb;subst hb;refine ⟨by simp only[Value.ownBlock,ne_eq,Option.some.injEq];omega,fun e=>?_⟩;obtain ⟨ys,y1,y2,y3,y4⟩:=wu.o;have:=(y3.lt _ e.symm).2;omega)
    obtain ⟨g4,c4,w4,C3,o6⟩:=Af W3 w.heap.size n xl xs x (k:Nat) (.slice (some ⟨w2.heap.size,0,none⟩) 1 1) rfl [(k:Int)] x3 (by have:=UN.o;have:=HL.o;omega) (Nat.le_trans bS.size hb3.size);rw[show W3.heap.size=w2.heap.size+1 by rw[← hW3];simp,← hW3] at C3;have Sv:=aa C3;have Zh:=aa (dB.push x1 x4 FV o6 x2);have N7:=aa ((o6.others _ _ _ _ _ _ (aL BX hb3) (cP (aL BX hb3) x3 (by decide))).1);have fW:=aa ((bS.trans (hb3.mono bS.size)).trans o6.below);have hd:decide (0<x)=true:=by simp[hx0]
    clear C3 o6 hW3 hb3 pM x1 x2 x3 x4 zt FV;go_upto_region 7 with (at_builtin;refine Lib.wpList_append_run _ rfl (.tmp 20) (.tmp 21) _ _ rfl _ _ rfl rfl _ _ dJ.o ?_);go_upto_region 8 with fail;go_wp2_with (at_builtin;refine Lib.wpList_append_run _ rfl (.tmp 28) (.tmp 37) _ _ rfl _ _ rfl rfl _ _ Sv.o ?_);go_roundw
    case rel=>exact ⟨k+1,n+1,_,_,by omega,by go_num,rfl,rfl,by rw[Jy.o,List.length_append,← ll.o];rfl,by have:=UN.o;omega,N7.o,by rw[Jy.o];exact Zh.o,fW.o⟩
    case measure=>simp[intOf];omega
   ·have Jy:=aa (VR HX hx0)
    have hd:decide (0<x)=false:=(by simp[hx0]);go_wp2_with (at_builtin;refine Lib.wpList_append_run _ rfl (.tmp 20) (.tmp 21) _ _ rfl _ _ rfl rfl _ _ dJ.o ?_);go_roundw
    case rel=>exact ⟨k+1,n,_,_,by omega,by go_num,rfl,rfl,by rw[Jy.o,← ll.o],by have:=UN.o;omega,BX.o,by rw[Jy.o];exact wu.o,bS.o⟩
    case measure=>simp[intOf];omega
  ·obtain rfl:k=N:=by omega
   obtain ⟨px,mx,cx,tZ⟩:=jA Zg.choose_spec.2.2.1;obtain rfl:n=mx:=by
    rcases aJ Zg.choose_spec.2.2.1 with ⟨e,e2,_⟩|⟨g,cap,e⟩
    ·rw[tZ] at e;injection e with _ e _;omega
    ·rw[tZ] at e;injection e with _ e _;exact e.symm
   subst tZ;go_upto_if 41 with fail;go_cut [] from 42 to 47 (fun wx=>OcS w f k n (bZ f k) xo (.slice px n cx) wx)
   case first=>
    by_cases hn1:n=1
    ·obtain ⟨t,ht⟩:∃t,bZ f k=[t]:=List.length_eq_one_iff.1 (by rw[← ll.o,hn1])
     obtain ⟨i,hik,hti,_⟩:=jE f k t (by rw[ht];simp);obtain ⟨g,cap,xs,e,_⟩:=Zg.rows (by omega);injection e with e1 _ e2;subst e1;subst e2;subst hn1;obtain ⟨r,q0,q1,_⟩:=Zg.cell (i:=0) (t:=t) (by rw[ht];rfl);rw[hti] at q1;replace q1:wr.cell? ⟨g,1,none⟩=some (.int .i64 (i:Nat)):=by simpa using q1
     rcases aJ Jr.o with ⟨_,e,_⟩|⟨go,co,rfl⟩
     ·omega
     have Yl:=JG Jr.o;have z0:wr.cell? ⟨go,i,none⟩=some (.int .i64 0):=Ag Jr (by rw[List.getElem?_replicate,if_pos hik]);have z1:=gj Jr i;have aea:=lU Jr i (.int .i64 1) (by unfold bw;rw[List.length_map,List.length_replicate];exact hik);have hg:wr.grownBy (wr.setCell ⟨go,i,none⟩ (.int .i64 1)) (Value.slice (some ⟨go,0,none⟩) k co).ownBlock:=av wr go i _;have HS:=aa (show OcS w f k 1 (bZ f k) (.slice (some ⟨go,0,none⟩) k co) (.slice (some ⟨g,0,none⟩) 1 cx) (wr.setCell ⟨go,i,none⟩ (.int .i64 1)) from
      ⟨k,oV f (bZ f k),by omega,by omega,HST,HP,by
       unfold oV;rw[if_pos (by rw[ht];rfl),ht,HN.o];unfold qG;simp only[List.getElem?_cons_zero,Option.getD_some,hti,Int.toNat_natCast];rw[← rK];exact aea,Zg.o.out hg ad9 (.inl rfl),HB.grown hg HB.size (fun b hb=>(Jr.lt b hb).1)⟩)
     have iM:(0:Int)≤(i:Int):=(by omega);have aq8:(i:Int)<(k:Int):=by omega
     clear aea hg Yl q0 ht hti hik;go_wp2_with fail;go_meet
     case rel=>exact HS.o
    ·have HS:=aa (show OcS w f k n (bZ f k) xo (.slice px n cx) wr from
      ⟨k,oV f (bZ f k),by have:=UN.o;omega,by have:=UN.o;omega,HST,HP,by
       unfold oV;rw[if_neg (by rw[← ll.o];exact hn1),HN.o];exact Jr,Zg,HB⟩)
     have aq9:(n==1)=false:=(by simp[hn1]);have ara:((n:Int)==1)=false:=by simp;omega
     go_wp2_with fail;go_meet
     case rel=>exact HS.o
   case rest=>
    have ajR:=aa hcut;clear hcut;go_wp2_with fail;go_loopw [4,6,7,8,9,10,11] (fun vl _ _ _ _ _ _ wy=>Oc2 w f k xo vl wy) (fun vl _ _ _ _ _ _ _=>ajd vl)
    case atStart=>exact ⟨_,_,_,rfl,ajR⟩
    case round=>
     obtain ⟨n2,l,xl,rfl,fu,out,hfu,hnN,hinv,hon,hro,htr,hb⟩:=hrel;have HFU:=aa hfu;have zl:=aa hnN;have Zi:=aa hinv;have HON:=aa hon;have BX:=aa hro;have wu:=aa htr;have bS:=aa hb;clear hfu hnN hinv hon hro htr hb;obtain ⟨py,my,cy,tZ⟩:=jA wu.choose_spec.2.2.1;obtain rfl:n2=my:=by
      rcases aJ wu.choose_spec.2.2.1 with ⟨e,e2,_⟩|⟨g,cap,e⟩
      ·rw[tZ] at e;injection e with _ e _;omega
      ·rw[tZ] at e;injection e with _ e _;exact e.symm
     subst tZ;by_cases iZ:1<n2
     case neg=>
      have kI:=aa (show out=iO f by rw[← HON.o,Ka (by rw[wu.o.len];omega)]);have Sw:=aa (show wr.ownsRow w.heap.size 3 1 xo k (bw (iO f)) by rw[← kI.o];exact BX);have hd:decide ((n2:Int)>1)=false:=by simp;omega
      have QP:decide (1<n2)=false:=by simp;omega
      clear iZ;go_wp2_with fail;go_ret;exact ⟨_,rfl,Sw,bS⟩
     case pos=>
     obtain ⟨fu,rfl⟩:∃m,fu=m+1:=⟨fu-1,by have:=HFU.o;omega⟩
     have hl2:2≤l.length:=by rw[wu.o.len];omega
     have aec:=aa (Zi.two hl2);have pH:=aa (Zi.step hl2);have Zj:=aa Zi.small;have N8:=aa (show oq fu (zY l) (CI l out)=iO f by rw[← HON.o,oq,if_pos hl2]);have L1:=lJ (l:=l) (by omega);have wV:zY l=((l.eraseIdx (cW l)).eraseIdx (cW (l.eraseIdx (cW l))))++[sI (qG l (cW l)) (qG (l.eraseIdx (cW l)) (cW (l.eraseIdx (cW l))))]:=rfl;have hso:CI l out=gA out ((qG l (cW l)).ins++(qG (l.eraseIdx (cW l)) (cW (l.eraseIdx (cW l)))).ins):=rfl;rw[wV,hso] at pH N8;obtain ⟨i,hi⟩:=aG (cW l);rw[hi] at pH N8 L1;obtain ⟨a,ha⟩:=aG (qG l i);have hai:l[i]?=some a:=by rw[← ha];unfold qG;rw[List.getElem?_eq_getElem L1.1];rfl
     obtain ⟨l1,Bz⟩:∃x,l.eraseIdx i=x:=⟨_,rfl⟩
     rw[ha,Bz] at pH N8;have ajS:l1.length=n2-1:=by rw[← Bz,List.length_eraseIdx_of_lt L1.1,wu.o.len]
     have L2:=lJ (l:=l1) (by omega);obtain ⟨i2,pO⟩:∃i,cW l1=i:=⟨_,rfl⟩
     rw[pO] at pH N8 L2;obtain ⟨b,iY⟩:=aG (qG l1 i2);have hbi:l1[i2]?=some b:=by rw[← iY];unfold qG;rw[List.getElem?_eq_getElem L2.1];rfl
     obtain ⟨l2,Zk⟩:∃x,l1.eraseIdx i2=x:=⟨_,rfl⟩
     rw[iY,Zk] at pH N8;have HI:=aa hi;have HAI:=aa hai;have xg:=aa Bz;have Jz:=aa pO;have HBI:=aa hbi;have nP:=aa Zk;have aed:i<n2:=by have:=L1.1;rw[wu.o.len] at this;exact this
     have Sx:i2<n2-1:=by have:=L2.1;rw[ajS] at this;exact this
     obtain ⟨wa,na,ia⟩:=a;obtain ⟨wb,nb,ib⟩:=b;have HTA:=aa (aec.o _ (List.mem_of_getElem? hai));have Kj:=aa (aec.o _ (by have:=List.mem_of_getElem? hbi;rw[← Bz] at this;exact List.mem_of_mem_eraseIdx this));clear hi hai Bz pO hbi Zk L1 L2 ha iY wV hso hl2;obtain ⟨g,cap,xs,e,hc1,hc2,x1,x2,x3,x4,x5⟩:=wu.rows (by omega);injection e with e1 _ e2;subst e1;subst e2;have anp:n2≤300:=by have:=zl.o;omega
     have nV:=aa (CO xs _ wr x3 (by omega) (by omega));rw[x1,HI.o] at nV;have hd:decide ((n2:Int)>1)=true:=by simp;omega
     have QP:decide (1<n2)=true:=by simp;omega
     have iM:(0:Int)≤(i:Int):=(by omega);have pM:(i:Int)<(n2:Int):=by omega
     clear x1 x2 x3 x4 x5;go_upto_region 13 with (go_at_call 231;(refine nV.o.mono ?_);rintro e w5 ⟨rfl,aR⟩;have bp:=aa aR;clear aR);have HT5:=aa (wu.below bp);have oy:=aa (aL BX bp);have Qm:=aa (ak bS bp);obtain ⟨ra,r0,r1,r2,Zl⟩:=HT5.cell HAI.o;simp only at r0 r1 Zl;have Gv:=aa (Zl.keep nE);obtain ⟨pa,ca,rfl,_⟩:=id Zl;obtain ⟨ma,hma⟩:∃m,ia.length=m:=⟨_,rfl⟩
     rw[hma] at r2 Gv;have VS:=aa hma;obtain ⟨W6,rN⟩:∃W,w5.alloc (.cells #[.int .i64 wa,.int .i64 na,.slice pa ma ca] 283)=W:=⟨_,rfl⟩
     have cV:Bw w5 W6:=by rw[← rN];exact ar
     have kS:=aa (show xQ W6 w5.heap.size wa na (.slice pa ma ca) by rw[← rN];exact ⟨by simp,by simp,by simp⟩);have HT6:=aa (HT5.below cV);have rH:=aa (aL oy cV);have cU:=aa cV;have HW6:=bh Qm cV;have aee:=aa (Gv.keep (af cV));have aef:=aa rN;have aeg:=aa (fun b hb=>(oy.lt b hb).2);clear Zl hma rN cV nV Gv wu BX;go_upto_region 14 with fail;rw[aef.o];clear r0 r1 r2 aef HT5 oy;obtain ⟨g',cap',xs,e,hc1,hc2,x1,x2,x3,x4,x5⟩:=HT6.rows (by omega);injection e with e1 _ e2;injection e1 with e1;injection e1 with e1 _;subst e1;subst e2;have Uh:=aa (xF _ 0 n2 _ i (xs.map dR) W6 x4 (fun q hq=>by obtain ⟨y,_,rfl⟩:=List.mem_map.1 hq;rfl) (by rw[List.length_map,x2]) aed hc1 hc2 (by omega));have HER:=aa (fun (W':World) (v':Value) (hb:Bw W6 W') (ho:W'.ownsRow W6.heap.size 283 3 v' (n2-1) ((xs.map dR).eraseIdx i).flatten)=>dB.erase x1 x2 aed x5 hb HW6.size ho);clear x1 x2 x3 x4 x5;go_upto_region 15 with (go_at_call 232;(refine Uh.o.mono ?_);rintro e w7 ⟨v7,rfl,ho7,dL⟩;have pP:=aa ho7;have fw:=aa dL;clear ho7 dL);have Eo:=aa (HER.o w7 v7 fw pP);have Ev:=aa (aL rH fw);have HW7:=aa (ak HW6 fw);have lj:=aa (kS.below fw);have aei:=aa (aee.keep (af fw));rw[xg.o] at Eo;obtain ⟨m1,yM⟩:∃m,n2-1=m:=⟨_,rfl⟩
     rw[yM] at Eo Sx;have Jm:=aa yM;clear Uh HER pP HT6 rH kS aee yM;obtain ⟨g7,c7,xs,rfl,hc1,hc2,x1,x2,x3,x4,x5⟩:=Eo.rows (by omega);have arc:m1≤300:=by have:=Jm.o;omega
     have nV:=aa (CO xs _ w7 x3 (by omega) (by omega));rw[x1,Jz.o] at nV;have ard:(0:Int)≤(i2:Int):=by omega
     have arf:(i2:Int)<(m1:Int):=(by omega);clear x1 x2 x3 x4 x5;go_upto_region 16 with (go_at_call 231;(refine nV.o.mono ?_);rintro e w8 ⟨rfl,BH⟩;have gI:=aa BH;clear BH);have Fi:=aa (Eo.below gI);have Ks:=aa (aL Ev gI);have HW8:=aa (ak HW7 gI);have vS:=aa (lj.below gI);have aej:=aa (aei.keep (af gI));obtain ⟨rb,r0,r1,r2,Qi⟩:=Fi.cell HBI.o;simp only at r0 r1 Qi;have Fh:=aa (Qi.keep nE);obtain ⟨pb,cb,rfl,_⟩:=id Qi;obtain ⟨mb,VT⟩:∃m,ib.length=m:=⟨_,rfl⟩
     rw[VT] at r2 Fh;have yV:=aa VT;obtain ⟨W9,AE⟩:∃W,w8.alloc (.cells #[.int .i64 wb,.int .i64 nb,.slice pb mb cb] 283)=W:=⟨_,rfl⟩
     have kn:Bw w8 W9:=by rw[← AE];exact ar
     have XG:=aa (show xQ W9 w8.heap.size wb nb (.slice pb mb cb) by rw[← AE];exact ⟨by simp,by simp,by simp⟩);have HT9:=aa (Fi.below kn);have tK:=aa (aL Ks kn);have ke:=aa kn;have HW9:=bh HW8 kn;have NQ:=aa (vS.below kn);have ael:=aa (aej.keep (af kn));have aem:=aa (Fh.keep (af kn));have aen:=aa AE;have aeo:=aa (fun b hb=>(Ks.lt b hb).2);clear Qi VT AE kn nV Fh Eo Ev lj aei;go_upto_region 17 with fail;rw[aen.o];clear r0 r1 r2 aen Fi Ks vS aej;obtain ⟨g',cap',xs,e,hc1,hc2,x1,x2,x3,x4,x5⟩:=HT9.rows (by omega);injection e with e1 _ e2;injection e1 with e1;injection e1 with e1 _;subst e1;subst e2;have Uh:=aa (xF _ 0 m1 _ i2 (xs.map dR) W9 x4 (fun q hq=>by obtain ⟨y,_,rfl⟩:=List.mem_map.1 hq;rfl) (by rw[List.length_map,x2]) Sx hc1 hc2 (by omega));have HER:=aa (fun (W':World) (v':Value) (hb:Bw W9 W') (ho:W'.ownsRow W9.heap.size 283 3 v' (m1-1) ((xs.map dR).eraseIdx i2).flatten)=>dB.erase x1 x2 Sx x5 hb HW9.size ho);clear x1 x2 x3 x4 x5;go_upto_region 18 with (go_at_call 232;(refine Uh.o.mono ?_);rintro e GH ⟨v10,rfl,aep,Ru⟩;have Hk:=aa aep;have tD:=aa Ru;clear aep Ru);have Sy:=aa (HER.o GH v10 tD Hk);have Hl:=aa (aL tK tD);have ajV:=aa (ak HW9 tD);have N9:=aa (NQ.below tD);have Oa:=aa (XG.below tD);have XO:=aa (ael.keep (af tD));have XP:=aa (aem.keep (af tD));rw[nP.o] at Sy;obtain ⟨m2,zi⟩:∃m,m1-1=m:=⟨_,rfl⟩
     rw[zi] at Sy;have Cq:=aa zi;clear Uh HER Hk HT9 tK NQ XG ael aem zi;have FH:1≤k:=by have:=zl.o;omega
     rcases aJ Hl.o with ⟨_,e,_⟩|⟨go,co,rfl⟩
     ·omega
     have hgo:go<GH.heap.size:=(Hl.lt go rfl).2;have hdr:Bw GH GH.drew:=aH.drew;have ajW:ma≤300:=by have:=HTA.2.2.2.2.1;rw[VS.o] at this;omega
     have ajX:mb≤300:=by have:=Kj.2.2.2.2.1;rw[yV.o] at this;omega
     obtain ⟨v11,w11,v12,w12,hr1,hr2,Mx,aeq,aer⟩:=RJ GH.drew ia ib _ _ (XO.keep (af hdr)) (XP.keep (af hdr)) (by rw[VS.o];omega) (by rw[yV.o];omega);rw[VS.o,yV.o] at Mx;obtain ⟨mi,Yp⟩:∃m,ma+mb=m:=⟨_,rfl⟩
     obtain ⟨ins,sW⟩:∃m,ia++ib=m:=⟨_,rfl⟩
     rw[Yp,sW] at Mx;have aes:=aa hr1;have aet:=aa hr2;have C4:=aa Mx;have Kt:=aa (show Bw GH w12 from hdr.trans aer);have yN:=aa (show ins.length=mi by rw[← sW,List.length_append,VS.o,yV.o,Yp]);have Ob:=aa sW;have ari:mi≤600:=by omega
     have fJ:=aa (show ∀s∈ins,0≤s∧s<k from fun s hs=>by
      rw[← sW] at hs;rcases List.mem_append.1 hs with hs|hs
      ·exact HTA.2.2.2.2.2 s hs
      ·exact Kj.2.2.2.2.2 s hs)
     have kJ:=aa (And.intro (ae hdr N9.2.2) (ae hdr Oa.2.2));have hal:Bw GH (GH.alloc (.cells #[] 3)).drew:=(ar).drew;have gq:=aa (And.intro (ae hal N9.2.2) (ae hal Oa.2.2));have h11:Bw GH w11:=hdr.trans aeq;have aeu:=aa (And.intro (ae h11 N9.2.2) (ae h11 Oa.2.2));have aev:=aa (And.intro (ae Kt N9.2.2) (ae Kt Oa.2.2));have Mo:=aa hgo;clear hr1 hr2 Mx aeq aer Yp sW hdr hal h11 ajW ajX hgo FH;obtain ⟨q0,q1⟩:=kJ.o;go_region_held3 (fun w'=>w'.cell? ⟨w5.heap.size,2,none⟩=some (.slice pa ma ca)∧w'.cell? ⟨w8.heap.size,2,none⟩=some (.slice pb mb cb))
      (first|with_reducible exact kJ.o|with_reducible exact gq.o|with_reducible exact aeu.o|with_reducible exact aev.o)
      (first|(refine bD rfl (.tmp 69) (.tmp 71) _ rfl rfl rfl aes.o ?_)|(refine bD rfl (.tmp 72) (.tmp 74) _ rfl rfl rfl aet.o ?_))
     clear q0 q1 kJ gq aeu aev aes aet;have aew:=aa (Sy.below Kt);have Zm:=aa (aL Hl Kt);have ajZ:=aa (N9.below Kt);have aj0:=aa (Oa.below Kt);have Zn:=aa (ak ajV Kt);obtain ⟨pi,mj,ci,hvi⟩:=jA C4.o;obtain rfl:mi=mj:=by
      rcases aJ C4.o with ⟨e,e2,_⟩|⟨g,cap,e⟩
      ·rw[hvi] at e;injection e with _ e _;omega
      ·rw[hvi] at e;injection e with _ e _;exact e.symm
     subst hvi;have arj:(mi:Int)≤600:=by omega
     have Qn:=aa (show w5.heap.size≠go∧w8.heap.size≠go∧(∀b,(Value.slice pi mi ci).ownBlock=some b→GH.heap.size≤b) from
      ⟨by have:=aeg.o go rfl;omega,by have:=aeo.o go rfl;omega,fun b hb=>(C4.lt b hb).1⟩)
     have Zo:=aa (show eo (Value.slice pi mi ci) (Value.slice (some ⟨go,0,none⟩) k co) by
      rcases Ui:(Value.slice pi mi ci).ownBlock with _|b
      ·exact .inl Ui
      ·refine .inr fun e=>?_
       have:=Qn.2.2 b Ui;rw[Ui] at e;simp only[Value.ownBlock,Option.some.injEq] at e;have:=Mo.o;omega)
     have aex:=aa (fun b hb=>(Sy.choose_spec.2.2.1.lt b hb).2);clear Sy Hl N9 Oa XO XP aeg aeo;go_wp2_with fail;go_loopw [11] (fun i wz=>∃j:Nat,j≤mi∧i=.int .i64 j∧w12.grownBy wz (some go)∧wz.ownsRow w.heap.size 3 1 (.slice (some ⟨go,0,none⟩) k co) k (bw (gA out (ins.take j)))) (fun i _=>mi-(intOf i).toNat)
     case atStart=>exact ⟨0,dO,rfl,ko _ _,Zm⟩
     case round=>
     obtain ⟨j,hj,rfl,hgz,hrz⟩:=hrel;have XQ:=aa hgz;have Zp:=aa hrz;clear hgz hrz;by_cases hlt3:j<mi
     ·have Gg:(j:Int)<(mi:Int):=by omega
      obtain ⟨s,hs⟩:=fx (l:=ins) (k:=j) (by rw[yN.o];exact hlt3);have RK:=fJ.o s (List.mem_of_getElem? hs);obtain ⟨q,rfl⟩:∃q:Nat,s=q:=⟨s.toNat,by omega⟩
      rcases aJ C4.o with ⟨_,e,_⟩|⟨gi,ci',e⟩
      ·omega
      injection e with e1 _ e2;subst e1;subst e2;have c0:wr.cell? ⟨gi,j,none⟩=some (.int .i64 (q:Nat)):=XQ.cell (Ag C4 hs) (fun e=>by
       rcases Zo.o with e2|e2
       ·simp[Value.ownBlock] at e2
       ·exact e2 e)
      have hqk:q<(gA out (ins.take j)).length:=by rw[tF,Zj.o.1];omega
      obtain ⟨y,hy⟩:∃y,(gA out (ins.take j))[q]?=some y:=⟨_,List.getElem?_eq_getElem hqk⟩
      have c1:=Ag Zp hy;have c2:=gj Zp q;have BL:y≤1000:=by have:=NK (ins.take j) (M:=15) (fun x hx=>(Zj.2 x hx).2) (by omega) y (List.mem_of_getElem? hy);rw[List.length_take] at this;omega
      have hy0:0≤y:=Ab _ (fun x hx=>(Zj.2 x hx).1) y (List.mem_of_getElem? hy);have ow:=aa (show (wr.setCell ⟨go,q,none⟩ (.int .i64 (y+1))).ownsRow w.heap.size 3 1 (.slice (some ⟨go,0,none⟩) k co) k (bw (gA out (ins.take (j+1)))) by
       have h:=lU Zp q (.int .i64 (y+1)) (by unfold bw;rw[List.length_map];exact hqk);rw[GR hs];unfold fV;rw[Int.toNat_natCast,hy,Option.getD_some,← rK];exact h)
      have HGS:=aa (aW XQ (av wr go q (.int .i64 (y+1))));have hq0:(0:Int)≤(q:Int):=by omega
      have arl:(q:Int)<(k:Int):=(by omega);clear hs RK hy hqk;go_wp2_with fail;go_roundw
      case rel=>exact ⟨j+1,by omega,by go_num,HGS.o,ow.o⟩
      case measure=>simp[intOf];omega
     ·obtain rfl:j=mi:=by omega
      have aez:=aa (show wr.ownsRow w.heap.size 3 1 (.slice (some ⟨go,0,none⟩) k co) k (bw (gA out ins)) by
       have:=Zp.o;rw[List.take_of_length_le (by rw[yN.o];exact aT)] at this;exact this)
      have HXZ:=aa (ajZ.grown XQ (fun e=>Qn.1 (by injection e)));have HYZ:=aa (aj0.grown XQ (fun e=>Qn.2.1 (by injection e)));obtain ⟨ys,y1,y2,y3,y4⟩:=id aew.o;have HTZ:=aa (aew.o.out (vo':=.slice (some ⟨go,0,none⟩) k co) XQ (cP y3 Zm (by decide)) (.inl rfl));clear y1 y2 y3 y4;obtain ⟨xs,x1,x2,x3,x4⟩:=HTZ.o;have XR:=C4.kept XQ Zo.o;have FV:dw (mask (El (.slice (some ⟨go,0,none⟩) k co) v10) wr) (.slice pi j ci) 1 r9 ins:=ou uF yN (by rw[rJ];exact XR) (fun b hb=>⟨by
       rcases Zo.o with e|e
       ·rw[hb] at e;cases e
       ·rw[← hb];exact e,by
       have h1:=Qn.2.2 b hb;intro e;have:=(aex.o b e.symm);omega⟩)
      obtain ⟨mn,hmn⟩:∃m,min na nb=m:=⟨_,rfl⟩
      have arq:(if nb<na then nb else na)=mn:=by rw[← hmn];split <;> omega
      obtain ⟨g4,c4,w4,C3,o6⟩:=Af wr w.heap.size m2 v10 xs (wa+wb) mn (.slice pi j ci) rfl ins x3 (by have:=Cq.o;have:=Jm.o;omega) (Nat.le_trans Zn.size XQ.size);have Sv:=aa C3;have Zh:=aa (dB.push x1 x4 FV o6 x2);have N7:=aa ((o6.others _ _ _ _ _ _ aez (cP aez x3 (by decide))).1);have fW:=aa ((Zn.grown XQ Zn.size (fun b hb=>by
       have:=(Zm.lt go rfl).1;injection hb with hb;omega)).trans o6.below)
      have HJ:=aa (show sI ⟨wa,na,ia⟩ ⟨wb,nb,ib⟩=⟨wa+wb,mn,ins⟩ by unfold sI;rw[Ob.o,hmn]);have VN:=aa (show OcS w f k (m2+1) (l2++[⟨wa+wb,mn,ins⟩]) (.slice (some ⟨go,0,none⟩) k co) (.slice (some ⟨g4,0,none⟩) (m2+1) c4) w4 from
       ⟨fu,gA out ins,by have:=HFU.o;have:=Jm.o;have:=Cq.o;omega,by have:=zl.o;have:=Jm.o;have:=Cq.o;omega,by have:=pH.o;rw[HJ.o,Ob.o] at this;exact this,by have:=N8.o;rw[HJ.o,Ob.o] at this;exact this,N7,Zh,fW⟩)
      have hwa:=HTA.1;have aeA:=HTA.2.1;have hwb:=Kj.1;have aeB:=Kj.2.1;replace hwa:1≤wa:=hwa;replace aeA:wa≤1000:=aeA;replace hwb:1≤wb:=hwb;replace aeB:wb≤1000:=aeB;obtain ⟨q0,q1,q2⟩:=HXZ.o;obtain ⟨z0,z1,z2⟩:=HYZ.o;have aeC:=aa (show m2+1<n2 by have:=Jm.o;have:=Cq.o;omega);clear x1 x2 x3 x4 XR FV C3 o6 Zp;go_wp2_with (at_builtin;refine Lib.wpList_append_run _ rfl _ _ _ _ rfl _ _ rfl rfl _ _ Sv.o ?_);go_roundw
      case rel=>exact ⟨_,_,_,rfl,VN⟩
      case measure=>exact aeC.o
theorem Sz (f:List Int) (v1:Value) (w:World) (h1:fA w v1 f) (hl:f.length≤300) (hf:∀x∈f,0≤x∧x≤1000):Calls prog 224 #[v1] w fun e w'=>e=.returned (.bool true)∧Bw w w':=by
 obtain ⟨p,c,rfl,hc1,hc2,ha⟩:=h1;have HA:=aa ha;obtain ⟨N,hN⟩:=aG f.length;rw[hN] at hc1 hl;rw[hN];have HN:=aa hN;have HF:=aa hf;have b1:(N:Int)≤300:=by omega
 clear ha hN hl hc1 hc2 hf;go_enter func224,ntmps224;go_wp2_with fail;go_loopw [3] (fun i wr=>∃k:Nat,k≤N∧i=.int .i64 k∧Bw w wr) (fun i _=>N-(intOf i).toNat)
 case atStart=>exact ⟨0,dO,rfl,aH⟩
 case round=>
  obtain ⟨k,hk,rfl,hb⟩:=hrel;have HB:=aa hb;clear hb;by_cases hlt:k<N
  ·have fN:(k:Int)<(N:Int):=by omega
   obtain ⟨x,hx⟩:=fx (l:=f) (k:=k) (by rw[HN.o];exact hlt);obtain ⟨_,g,o,rfl,r0⟩:=HA.o k x hx;replace r0:=ae HB r0;obtain ⟨x0,x1⟩:=HF.o x (List.mem_of_getElem? hx);clear hx;go_wp2_with fail;go_roundw
   case rel=>exact ⟨k+1,by omega,by go_num,HB.o⟩
   case measure=>simp[intOf];omega
  ·obtain rfl:k=N:=by omega
   have hd:decide ((k:Int)≤300)=true:=by simp;omega
   go_wp2_with fail;go_ret;exact ⟨aN (by simp),HB⟩
theorem Oc (f:List Int) (v1:Value) (w:World) (h1:fA w v1 f) (hl:f.length≤300) (hf:∀x∈f,x≤15):Calls prog 226 #[v1] w fun e w'=>e=.returned (.bool false)∧Bw w w':=by
 obtain ⟨p,c,rfl,hc1,hc2,ha⟩:=h1;have HA:=aa ha;obtain ⟨N,hN⟩:=aG f.length;rw[hN] at hc1 hl;rw[hN];have HN:=aa hN;have HF:=aa hf;have b1:(N:Int)≤300:=by omega
 clear ha hN hl hc1 hc2 hf;go_enter func226,ntmps226;go_wp2_with fail;go_loopw [3] (fun i wr=>∃k:Nat,k≤N∧i=.int .i64 k∧Bw w wr) (fun i _=>N-(intOf i).toNat)
 case atStart=>exact ⟨0,dO,rfl,aH⟩
 case round=>
  obtain ⟨k,hk,rfl,hb⟩:=hrel;have HB:=aa hb;clear hb;by_cases hlt:k<N
  ·have fN:(k:Int)<(N:Int):=by omega
   obtain ⟨x,hx⟩:=fx (l:=f) (k:=k) (by rw[HN.o];exact hlt);obtain ⟨_,g,o,rfl,r0⟩:=HA.o k x hx;replace r0:=ae HB r0;have x1:=HF.o x (List.mem_of_getElem? hx);clear hx;go_wp2_with fail;go_roundw
   case rel=>exact ⟨k+1,by omega,by go_num,HB.o⟩
   case measure=>simp[intOf];omega
  ·obtain rfl:k=N:=by omega
   go_wp2_with fail;go_ret;exact ⟨rfl,HB⟩
theorem wA {l:List Int} (h:∀x∈l,0≤x∧x≤1000):∀x∈l,aQ x:=fun x hx=>by have:=h x hx;unfold aQ;omega
theorem Od (f:List Int) (v1:Value) (w:World) (h1:fA w v1 f) (hl:f.length≤300) (hf:∀x∈f,0≤x) (hs:f.sum≤1000):Calls prog 209 #[v1] w fun e w'=>∃v,e=.returned v∧w'.ownsRow w.heap.size 3 1 v f.length (bw (iO f))∧Bw w w':=by
 have hf2:∀x∈f,0≤x∧x≤1000:=fun x hx=>⟨hf x hx,oZ hf hs x hx⟩
 have HM:=aa (Sz f v1 w h1 hl hf2);have HO:=aa (fun W (hb:Bw w W)=>Ss f v1 W (h1.keep (af hb)) hl hf hs);have yO:=aa (xE hf hs);have HD:=aa (fun (W:World) (v:Value) (h:fA W v (iO f))=>Oc (iO f) v W h (by rw[vP];exact hl) (fun x hx=>(yO x hx).2));clear hf2 h1 hl hf hs;go_enter func209,ntmps209;go_upto_region 3 with (go_at_call 224;(refine HM.o.mono ?_);rintro e w1 ⟨rfl,hb1⟩;have aY:=aa hb1;clear hb1);go_wp2_with (go_at_call 225;(refine (HO.o _ aY.o).mono ?_);rintro e w2 ⟨v2,rfl,hr2,hb2⟩;have jO:=aa hr2;have bS:=bh aY hb2;have Nn:=aa hb2.size;clear hr2 hb2);have HI:=aa (pZ (wA (fun x hx=>by have:=yO.o x hx;omega)) (by rw[vP];exact jO));have vZ:=aa (bz aY.size jO);go_loopw [0,3,4,5] (fun _ v _ _ wr=>v2=v∧Bw w2 wr) (fun _ _ _ _ _=>0)
 case atStart=>exact ⟨rfl,aH⟩
 case round=>obtain ⟨rfl,hb⟩:=hrel;have HB:=aa hb;have Jz:=aa (HI.keep (af hb));clear hb;go_wp2_with (go_at_call 226;(refine (HD.o _ _ Jz.o).mono ?_);rintro e w3 ⟨rfl,hb3⟩;have dF:=bh HB hb3;clear hb3);go_ret;exact ⟨_,rfl,aL vZ dF,ak bS dF⟩
theorem Ku {l:List Int} (h:l[k]?=some x):iz (l.take (k+1))=iz (l.take k)+jU x:=by unfold iz;rw[List.take_add_one,h,Option.toList,List.map_append,List.sum_append];simp
theorem xR (x:Int):0≤jU x∧jU x≤16384:=by
 unfold jU
 split
 ·rename_i h
  have h1:(2:Nat) ^ (15-x).toNat≤2 ^ 14:=Nat.pow_le_pow_right (by decide) (by omega);have h2:(2:Nat) ^ 14=16384:=by decide
  obtain ⟨q,hq⟩:=aG ((2:Nat) ^ (15-x).toNat);rw[hq] at h1 ⊢;omega
 ·omega
theorem C5:∀l:List Int,0≤iz l∧iz l≤16384*l.length
 |[]=>by simp[iz]
 |x::l=>by have h1:=C5 l;have h2:=xR x;unfold iz at *;rw[List.map_cons,List.sum_cons,List.length_cons];omega
theorem Kv (l:List Int) (v1:Value) (w:World) (h1:fA w v1 l) (hl:l.length≤300):Calls prog 223 #[v1] w fun e w'=>e=.returned (.int .i64 (iz l))∧Bw w w':=by
 obtain ⟨p,c,rfl,hc1,hc2,ha⟩:=h1;have HA:=aa ha;obtain ⟨N,hN⟩:=aG l.length;rw[hN] at hc1 hl;rw[hN];have HN:=aa hN;have b1:(N:Int)≤300:=by omega
 clear ha hN hl hc1 hc2;go_enter func223,ntmps223;go_wp2_with fail;go_loopw [3,4] (fun n i wr=>∃(k:Nat) (y:Int),k≤N∧i=.int .i64 k∧n=.int .i64 y∧Hid (y=iz (l.take k))∧Bw w wr) (fun _ i _=>N-(intOf i).toNat)
 case atStart=>exact ⟨0,0,dO,rfl,rfl,aa (by simp[iz]),aH⟩
 case round=>
  obtain ⟨k,y,hk,rfl,rfl,hy,hb⟩:=hrel;have HB:=aa hb;clear hb;by_cases hlt:k<N
  ·have fN:(k:Int)<(N:Int):=by omega
   obtain ⟨x,hx⟩:=fx (l:=l) (k:=k) (by rw[HN.o];exact hlt);obtain ⟨Su,g,o,rfl,r0⟩:=HA.o k x hx;replace r0:=ae HB r0;have fX:=aa (Ku hx);rw[← hy.out] at fX;have iL:=C5 (l.take k);rw[← hy.out,List.length_take] at iL;clear hx;by_cases pM:0<x∧x<16
   ·obtain ⟨h3,h4⟩:=pM
    obtain ⟨q,hq⟩:=aG ((15-x).toNat);have ars:(15:Int)-x=(q:Int):=by omega
    have aeD:q≤30:=(by omega);have YG:=aa (fun W=>vR q aeD W);have WY:jU x=((2 ^ q:Nat):Int):=by unfold jU;rw[if_pos ⟨h3,h4⟩,hq]
    obtain ⟨z,hz⟩:=aG (2 ^ q);rw[hz] at WY YG;have hzb:=xR x;rw[WY] at hzb fX;have hyz:IntKind.i64.wrap (y+(z:Int))=y+(z:Int):=by rw[IntKind.wrap_i64];omega
    have aeE:wrap64 (y+(z:Int))=y+(z:Int):=by unfold wrap64;omega
    have HW:=aa aeE;have d1:decide (0<x)=true:=by simp[h3]
    have d2:decide (x<16)=true:=(by simp[h4]);clear iL hzb hz WY hq hyz aeE aeD;go_wp2_with (go_at_call 177;(refine (YG.o _).mono ?_);rintro e w' ⟨rfl,rfl⟩);go_roundw
    case rel=>exact ⟨k+1,y+z,by omega,by go_num,by rw[HW.o],aa fX.o.symm,HB.o⟩
    case measure=>simp[intOf];omega
   ·have WY:jU x=0:=by unfold jU;rw[if_neg pM]
    rw[WY,Int.add_zero] at fX;clear iL WY;have hc:¬0<x∨(0<x∧¬x<16):=by omega
    clear pM;rcases hc with c1|⟨c1,c2⟩
    ·have d1:decide (0<x)=false:=by simp;omega
     go_wp2_with fail;go_roundw
     case rel=>exact ⟨k+1,y,by omega,by go_num,rfl,aa fX.o.symm,HB.o⟩
     case measure=>simp[intOf];omega
    ·have d1:decide (0<x)=true:=by simp;omega
     have d2:decide (x<16)=false:=by simp;omega
     go_wp2_with fail;go_roundw
     case rel=>exact ⟨k+1,y,by omega,by go_num,rfl,aa fX.o.symm,HB.o⟩
     case measure=>simp[intOf];omega
  ·obtain rfl:k=N:=by omega
   have HF:=aa (show y=iz l by have:=hy.out;rw[List.take_of_length_le (by rw[HN.o];exact aT)] at this;exact this);go_wp2_with fail;go_ret;exact ⟨kH HF,HB⟩
end Go.Proofs.YtbigkioechkngaaGreat
namespace Go.Proofs.YtbigkioechkngaaGreat
open Go.RowKit Go.Shelf
open Tryz
attribute [local go_sem] Oper.semAt_some
structure FiI (w:World) (n:Int) (M:Nat→Prop) (pre:List (Nat×Nat)) (W:World):Prop where
 at_:aK W w.heap.size [.int .i64 n]
 c:aK W (w.heap.size+1) [.int .i64 0]
 m:∀b,M b→b<W.heap.size
 below:Bw w W
 no:∀x∈pre,¬n≤(x.2:Int)
theorem FiI.kept {w:World} {n:Int} {M M':Nat→Prop} {pre:List (Nat×Nat)} {A C:World} {row:Option Nat} (h:FiI w n M pre A) (hg:A.grownBy C row) (hr:∀r,row=some r→w.heap.size+2≤r) (hn:New M M' A C):FiI w n M' pre C:=by
 have hne:∀b,b<w.heap.size+2→some b≠row:=fun b hb e=>by have:=hr b e.symm;omega
 refine ⟨h.at_.grown hg (hne _ (by omega)),h.c.grown hg (hne _ (by omega)),fun b hm=>?_,lO h.below (by have:=h.c.lt;omega) hg hr,h.no⟩;rcases hn b hm with hm|hm
 ·have:=h.m b hm;have:=hg.size;omega
 ·exact hm.2
def FiX (w:World) (n:Int) (c:Code) (pre:List (Nat×Nat)) (W:World):Prop:=c=.ret∧Bw w W∧∃(tN:List (Nat×Nat)) (x:Nat×Nat),pre=tN++[x]∧(∀y∈tN,¬n≤(y.2:Int))∧n≤(x.2:Int)∧aK W (w.heap.size+1) [.int .i64 x.1]
theorem K1 (u:List Bool) (n:Int) (v1:Value) (w:World) (h:dy w v1 u) (hu:u.length≤1000000):Calls prog 125 #[v1,.int .i64 n] w fun e w'=>e=.returned (.int .i64 (gy u n))∧Bw w w':=by
 obtain ⟨p,c,rfl,a1,a2⟩:=h.slice;have HC:=aa h.cells;have HU:=aa hu;obtain ⟨r,hr⟩:=aG (gy u n);rw[hr];have HR:=aa hr;clear h hr hu a1 a2;obtain ⟨W1,hW1⟩:=aG ((w.alloc (.cells #[.int .i64 n] 3)).alloc (.cells #[.int .i64 0] 3));have aU:=aa (yH w [.int .i64 n] [.int .i64 0] 3 3);rw[hW1] at aU;have ee:=aa hW1;clear hW1;rw[← callsIn_wide (n:=6)];refine callsIn_of_wp_marks func125 rfl trivial ?_ rfl;simp only[ntmps125,List.size_toArray,List.length_cons,List.length_nil,Nat.reduceAdd,Nat.reduceSub,Array.replicate_succ,Array.replicate_zero,List.push_toArray,List.append_toArray,List.nil_append,List.cons_append];have xa:=aU.1.one;have c0:=aU.2.1.one;have cf:=aU.2.1.free 0;have kK:=ee.o;by_cases hn:n<1
 case pos=>have HF:=aa (show (-1:Int)=r by rw[← HR.o,KZ hn]);have hd:decide (n<1)=true:=decide_eq_true hn;gi_wp2_with fail;have hc:=(aU.2.1.set 0 (.int .i64 (-1))).one;exact ⟨.int .i64 (-1),by simp[results,results125,go_sem,hc],kH HF.o,aU.o.2.2.setCell (p:=⟨w.heap.size+1,0,none⟩) (by show w.heap.size≤w.heap.size+1;omega) _⟩
 case neg=>
  have HH:=aa (show AW n (je u 0)=r by rw[← HR.o,KY (by omega)]);have hd:decide (n<1)=false:=decide_eq_false hn;gi_wp2_with fail;refine ⟨trivial,?_⟩;refine (callsIn_wide.2 (OQ _ _ _ _)).mono ?_;rintro e w4 ⟨rfl,rfl⟩;obtain ⟨W5,Df⟩:=aG (W1.alloc (.cells #[.slice p u.length c] 24));have aR:Bw W1 W5:=by rw[← Df];exact ar
  have yP:=aa (aU.1.below aR);have Rx:=aa (aU.2.1.below aR);have bp:=aa (ak aU.2.2 aR);have yX:=aa (show aK W5 W1.heap.size [.slice p u.length c] by rw[← Df];exact aK.new W1 _ _)
  try rw[Df]
  clear aR Df xa c0 cf kK;gi_wp2_with fail;have hseq:=SV 5 W1.heap.size (fun b=>b<W5.heap.size) u p c W5 yX.one yX.lt HU (fun i x hx=>by
   obtain ⟨g,o,h1,h2⟩:=HC.o i x hx;have hl:=World.block_lt_of_cell? _ _ h2;exact ⟨g,o,h1,Nat.lt_of_lt_of_le hl bp.size,ae bp h2⟩)
  have Xu:w.heap.size+2≤W5.heap.size:=by have:=Rx.lt;omega
  refine ij (n:=6) (gf:=199) (lb := #[.pointer (some ⟨W1.heap.size,0,none⟩)]) (by omega) rfl (enters_of func199 (by kernel_rfl) rfl) hseq ?hM (fun _=>rfl) (fun M pre W=>FiI w n M pre W)
   (FiX w n) ?i1 ?i2 ?x1 ?x2 ?start
   (fun _ x a' _=>a'={tmps := #[.slice p u.length c,.int .i64 n,uu,.pointer (some ⟨w.heap.size,0,none⟩),.pointer (some ⟨w.heap.size+1,0,none⟩),.int .i64 x.1,.int .i64 x.2,.int .i64 n,.bool false,.slice p u.length c,.func (.func 199) #[] #[.pointer (some ⟨W1.heap.size,0,none⟩)],.int .i64 x.1,.int .i64 x.2,uu,uu,uu,uu],defers:=[]}) ?ax ?assign ?body ?done ?stop
  case hM=>exact fun b hb=>hb
  case i1=>exact fun M M' s A B h hg hn=>h.kept hg (fun r e=>by cases e) hn
  case i2=>exact fun M s A B r o h hg hr ho hc=>h.kept hg (fun r' e=>by cases e;omega) (fun b hb=>.inl hb)
  case x1=>rintro c s A B ⟨rfl,h1,tN,x,h2,h3,h4,h6⟩ hg;exact ⟨rfl,lO (n:=2) h1 (by have:=h6.lt;omega) hg (fun r e=>by cases e),tN,x,h2,h3,h4,h6.grown hg (by simp)⟩
  case x2=>
   rintro c s A B r o ⟨rfl,h1,tN,x,h2,h3,h4,h6⟩ hg hr ho hc;have hne:∀k,k<w.heap.size+2→some k≠some r:=fun k hk e=>by injection e with e;omega
   exact ⟨rfl,lO (n:=2) h1 (by have:=h6.lt;omega) hg (fun r' e=>by cases e;omega),tN,x,h2,h3,h4,h6.grown hg (hne _ (by omega))⟩
  case start=>exact ⟨yP,Rx,fun b hb=>hb,bp,fun x hx=>by simp at hx⟩
  case ax=>exact fun M x a' A B r o h hg hr ho hc=>h
  case assign=>
   intro l M pre x W KK hi hK
   dsimp only[ME]
   gi_wp2;exact hK _ _ ⟨rfl,rfl,rfl,aT,fun _ _ _=>rfl⟩ rfl
  case body=>
   rintro l M pre x a' W hi rfl wE;have HI:=aa hi;have xa:=hi.at_.one;have c0:=hi.c.one;have cf:=hi.c.free 0;clear hi hseq;by_cases hh:n≤(x.2:Int)
   ·have hd:decide (n≤(x.2:Int))=true:=decide_eq_true hh
    have HH2:=aa hh;clear hh;gi_wp2;exact ⟨(KeepsOthers.setCell _ _ _).from _,rfl,HI.below.setCell (p:=⟨w.heap.size+1,0,none⟩) (by show w.heap.size≤w.heap.size+1;omega) _,pre,x,rfl,HI.no,HH2,HI.c.set 0 _⟩
   ·have hd:decide (n≤(x.2:Int))=false:=decide_eq_false hh
    have HH2:=aa hh;clear hh;gi_wp2;refine ⟨KeepsFrom.refl _ _,fp.refl _ _,HI.at_,HI.c,HI.m,HI.below,fun y hy=>?_⟩;rw[List.mem_append,List.mem_singleton] at hy;rcases hy with hy|rfl
    ·exact HI.no y hy
    ·have:=HH2.o;omega
  case done=>
   rintro D M W hD hi hK;have HI:=aa hi;have c0:=hi.c.one;have cf:=hi.c.free 0;have HF:=aa (show (-1:Int)=r by rw[← HH.o,Wi HI.o.no]);clear hi hseq;gi_wp2;have hK2:(W.setCell ⟨w.heap.size+1,0,none⟩ (.int .i64 (-1))).heap[D]?=some (.deferred (some [])):=by rw[Below.heap_setCell _ _ _ D (by show D≠w.heap.size+1;omega)];exact hK
   refine ⟨by simp,.inl ⟨_,_,rfl,run_takeDeferred hK2,?_⟩⟩;have hcc:=((HI.c.set 0 (.int .i64 (-1))).grown (grownBy_putObj' _ D (.deferred none)) (by intro e;injection e with e;omega)).cell (j:=0) rfl;exact ⟨.int .i64 (-1),by simp[results,results125,go_sem,hcc],kH HF.o,(HI.o.below.setCell (p:=⟨w.heap.size+1,0,none⟩) (by show w.heap.size≤w.heap.size+1;omega) _).trans (belowK_b (w:=w) aT _ D _ _ (by omega) hK2 rfl rfl)⟩
  case stop=>rintro D c pre W hD hp ⟨rfl,h1,tN,x,rfl,h3,h4,h6⟩ hK;have HF:=aa (show (x.1:Int)=r by rw[← HH.o,SU hp h3 h4]);have H1:=aa h1;have H6:=aa h6;clear h1 h6 hseq hp h3 h4;gi_wp2;refine ⟨by simp,.inl ⟨_,_,rfl,run_takeDeferred hK,?_⟩⟩;have hcc:=(H6.grown (grownBy_putObj' _ D (.deferred none)) (by intro e;injection e with e;omega)).cell (j:=0) rfl;exact ⟨.int .i64 x.1,by simp[results,results125,go_sem,hcc],kH HF.o,H1.o.trans (belowK_b (w:=w) aT _ D _ _ (by omega) hK rfl rfl)⟩
end Go.Proofs.YtbigkioechkngaaGreat
namespace Go.Proofs.YtbigkioechkngaaGreat
open Go.RowKit Tryz
variable {B k n:Nat}{F:Nat→Prop}{v vc vk vp:Value}{w:World}{d:aO}
theorem ez {e:TypeId} {xs:List Value} (h:w.ownsRow B e k v n xs):∃p c,v=.slice p n c:=by
 rcases aJ h with ⟨hv,hn,_⟩|⟨g,cap,hv⟩
 ·exact ⟨none,0,by rw[hv,hn]⟩
 ·exact ⟨_,cap,hv⟩
structure cX (w:World) (B:Nat) (d:aO) (vk vc vp:Value):Prop where
 kept:w.ownsRow B 9 1 vk d.kept.length (bk kX d.kept)
 cache:w.ownsRow B 47 2 vc d.cache.length (bk ly d.cache)
 keep:w.ownsRow B 4 1 vp d.keep.length (bQ d.keep)
 bd:Xo d
theorem pI {α:Type} {e:TypeId} {f:α→List Value} {l:List α} (hf:∀x,(f x).length=k) (hn:l.length=n) (h:w.ownsRow B e k v n (bk f l)) (hF:∀q,B≤q→F q):dw (mask F w) v k f l:=by
 rcases aJ h with ⟨hv,hz,_⟩|⟨g,cap,hv⟩
 ·have hl:l=[]:=List.eq_nil_of_length_eq_zero (by omega)
  subst hl;rw[hv];exact lu _ _ _
 ·have hg:=(h.lt g (by rw[hv];rfl)).1
  obtain ⟨p,c,e1,h2,h3,h4,h5⟩:=kx hf hn h;refine ⟨p,c,e1,h2,h3,h4,fun i x hx=>?_⟩;obtain ⟨g',o',e2,hc⟩:=h5 i x hx;have:g'=g:=by rw[hv,e2] at e1;injection e1 with e1 _ _;injection e1 with e1;injection e1 with e1;exact e1.symm
  subst this;exact ⟨g',o',e2,fun j u hj=>aq.2 ⟨hF _ hg,hc j u hj⟩⟩
theorem uQ {e:TypeId} {l:List Bool} (hn:l.length=n) (h:w.ownsRow B e 1 v n (bQ l)) (hF:∀q,B≤q→F q):dy (mask F w) v l:=by
 rcases aJ h with ⟨hv,hz,_⟩|⟨g,cap,hv⟩
 ·have hl:l=[]:=List.eq_nil_of_length_eq_zero (by omega)
  subst hl;rw[hv];exact iG _
 ·have hg:=(h.lt g (by rw[hv];rfl)).1
  obtain ⟨p,c,e1,h2,h3,h4,h5⟩:=eD hn h;refine ⟨p,c,e1,h2,h3,h4,fun i x hx=>?_⟩;obtain ⟨g',o',e2,hc⟩:=h5 i x hx;have:g'=g:=by rw[hv,e2] at e1;injection e1 with e1 _ _;injection e1 with e1;injection e1 with e1;exact e1.symm
  subst this;exact ⟨g',o',e2,aq.2 ⟨hF _ hg,hc⟩⟩
theorem cX.at (h:cX w B d vk vc vp) (hF:∀q,B≤q→F q):bN (mask F w) d vk vc vp:=
 ⟨pI jd rfl h.kept hF,pI l6 rfl h.cache hF,uQ rfl h.keep hF,h.bd⟩
theorem cX.low {w':World} (h:cX w B d vk vc vp) (hb:Bw w w'):cX w' B d vk vc vp:=
 ⟨aL h.kept hb,aL h.cache hb,aL h.keep hb,h.bd⟩
theorem cX.mono {B':Nat} (h:cX w B d vk vc vp) (hb:B'≤B):cX w B' d vk vc vp:=
 ⟨bz hb h.kept,bz hb h.cache,bz hb h.keep,h.bd⟩
theorem jF {b j:Nat} {e:TypeId} {u:Value} {xs:List Value} (h:w.ownsRow B e k v n xs) (hb:b<B):(w.setCell ⟨b,j,none⟩ u).ownsRow B e k v n xs:=
 h.kept (av w b j u) (by
  rcases aJ h with ⟨hv,_⟩|⟨g,cap,hv⟩
  ·left;rw[hv];rfl
  ·right;intro e
   have:=(h.lt g (by rw[hv];rfl)).1;rw[hv] at e;simp only[Value.ownBlock,Option.some.injEq] at e;omega)
theorem cX.bc {b j:Nat} {u:Value} (h:cX w B d vk vc vp) (hb:b<B):cX (w.setCell ⟨b,j,none⟩ u) B d vk vc vp:=
 ⟨jF h.kept hb,jF h.cache hb,jF h.keep hb,h.bd⟩
def S5 (B:Nat) (w:World) (d:aO) (e:Ending) (w':World):Prop:=∃vk vc vp,e=.returned (ew d vk vc vp)∧cX w' B d vk vc vp∧Bw w w'
theorem K4 (d:aO) (vk vc vp:Value) (w:World) (h:bN w d vk vc vp) (hl:d.kept.length≤1000000∧d.cache.length≤1000000∧d.keep.length≤1000000):Calls prog 135 #[ew d vk vc vp] w (S5 w.heap.size w d):=by
 obtain ⟨pk,ck,rfl,_,_,_,hk⟩:=h.kept.src jd uy (by decide);obtain ⟨pc,cc,rfl,_,_,_,hc⟩:=h.cache.src l6 uz (by decide);obtain ⟨pp,cp,rfl,_,hp⟩:=h.keep.src;have F3:=aa (fun W (hb:Bw w W)=>sL pk d.kept.length ck _ W (hk.stays hb) (by omega));have L9:=aa (fun W (hb:Bw w W)=>sM pc d.cache.length cc _ W (hc.stays hb) (by omega));have Ug:=aa (fun W (hb:Bw w W)=>qO pp d.keep.length cp _ W (hp.stays hb) (by omega));have fJ:=aa h.bd;obtain ⟨kept,cache,ah,keep,dead⟩:=d;simp only at F3 L9 Ug ⊢;clear h hk hc hp hl;unfold ew;simp only;obtain ⟨N,hN⟩:=aG kept.length;obtain ⟨M,hM⟩:=aG cache.length;obtain ⟨L,hL⟩:=aG keep.length;have HN:=aa hN;have HM:=aa hM;have HL:=aa hL;rw[hN] at F3;rw[hM] at L9;rw[hL] at Ug;rw[hN,hM,hL];clear hN hM hL;obtain ⟨W1,hW1⟩:=aG ((w.alloc (.cells #[.slice pk N ck,.slice pc M cc,.int .i64 ah,.slice pp L cp,.bool dead] 26)).alloc (.cells #[.slice none 0 0,.slice none 0 0,.int .i64 0,.slice none 0 0,.bool false] 26));have aY:=aa (show Bw w W1 by rw[← hW1];exact (ar).alloc (by simp) _);have aU:=aa (show aK W1 w.heap.size [.slice pk N ck,.slice pc M cc,.int .i64 ah,.slice pp L cp,.bool dead] by rw[← hW1];exact (aK.new w _ _).alloc _);have BO:=aa (show aK W1 (w.heap.size+1) [.slice none 0 0,.slice none 0 0,.int .i64 0,.slice none 0 0,.bool false] by rw[← hW1];have:=aK.new (w.alloc (.cells #[.slice pk N ck,.slice pc M cc,.int .i64 ah,.slice pp L cp,.bool dead] 26)) [.slice none 0 0,.slice none 0 0,.int .i64 0,.slice none 0 0,.bool false] 26;rw[World.size_alloc] at this;exact this);have JS:=aa (show W1.heap.size=w.heap.size+2 by rw[← hW1];simp);have ee:=aa hW1;clear hW1;go_enter func135,ntmps135;go_upto_region 1 with fail;rw[ee.o];clear ee;obtain ⟨x0,x1,x2,x3,x4⟩:=aU.five;go_upto_region 2 with (go_at_call 68;(refine (F3.o _ aY.o).mono ?_);rintro e w2 ⟨v2,rfl,ho,hb⟩;obtain ⟨p2,c2,rfl⟩:=ez ho;have nD:=aa ho;have bS:=aa hb;have dV:=aa (aU.o.below hb);have jO:=aa (BO.o.below hb);clear hb ho;have y0:=dV.o.cell (j:=0) rfl;have y1:=dV.o.free 0);obtain ⟨W2,hW2⟩:=aG (w2.setCell ⟨w.heap.size,0,none⟩ (.slice p2 N c2));have kD:=aa (show aK W2 w.heap.size [.slice p2 N c2,.slice pc M cc,.int .i64 ah,.slice pp L cp,.bool dead] by rw[← hW2];exact dV.set 0 _);have vZ:=aa (show aK W2 (w.heap.size+1) [.slice none 0 0,.slice none 0 0,.int .i64 0,.slice none 0 0,.bool false] by rw[← hW2];exact jO.far (by omega) _ _);have HK3:=aa (show W2.ownsRow (w.heap.size+2) 9 1 (.slice p2 N c2) N (bk kX kept) by rw[← hW2];have h:=nD.o;rw[JS.o] at h;exact jF h (by omega));have dF:=aa (show Bw w W2 by rw[← hW2];exact (ak aY bS).setCell (p:=⟨w.heap.size,0,none⟩) aT _);rw[hW2];clear hW2 x0 x1 x2 x3 x4 y0 y1;obtain ⟨x0,x1,x2,x3,x4⟩:=kD.five;have OM:=aa (show w.heap.size+2≤W2.heap.size by have:=vZ.lt;omega)
 go_upto_region 3 with (go_at_call 69;(refine (L9.o _ dF.o).mono ?_);rintro e w4 ⟨v2,rfl,ho,hb⟩;obtain ⟨p4,c4,rfl⟩:=ez ho;have pG:=aa (bz OM.o ho);have fW:=aa hb;have jK:=aa (kD.o.below hb);have Ha:=aa (vZ.o.below hb);clear hb ho;have y0:=jK.o.cell (j:=1) rfl;have y1:=jK.o.free 1);obtain ⟨W4,pT⟩:∃W2,w4.setCell ⟨w.heap.size,1,none⟩ (.slice p4 M c4)=W2:=⟨_,rfl⟩
 have fK:=aa (show aK W4 w.heap.size [.slice p2 N c2,.slice p4 M c4,.int .i64 ah,.slice pp L cp,.bool dead] by rw[← pT];exact jK.set 1 _);have oy:=aa (show aK W4 (w.heap.size+1) [.slice none 0 0,.slice none 0 0,.int .i64 0,.slice none 0 0,.bool false] by rw[← pT];exact Ha.far (by omega) _ _);have U9:=aa (show W4.ownsRow (w.heap.size+2) 9 1 (.slice p2 N c2) N (bk kX kept) by rw[← pT];exact jF (aL HK3 fW) (by omega));have Rx:=aa (show W4.ownsRow (w.heap.size+2) 47 2 (.slice p4 M c4) M (bk ly cache) by rw[← pT];exact jF pG (by omega));have bp:=aa (show Bw w W4 by rw[← pT];exact (ak dF fW).setCell (p:=⟨w.heap.size,1,none⟩) aT _);rw[pT];clear pT x0 x1 x2 x3 x4 y0 y1;obtain ⟨x0,x1,x2,x3,x4⟩:=fK.five;have HS5:=aa (show w.heap.size+2≤W4.heap.size by have:=oy.lt;omega);go_upto_region 4 with (go_at_call 70;(refine (Ug.o _ bp.o).mono ?_);rintro e w6 ⟨v2,rfl,ho,hb⟩;obtain ⟨p6,c6,rfl⟩:=ez ho;have Fg:=aa (bz HS5.o ho);have cU:=aa hb;have kS:=aa (fK.o.below hb);have rH:=aa (oy.o.below hb);clear hb ho;have y0:=kS.o.cell (j:=3) rfl;have y1:=kS.o.free 3);obtain ⟨W6,rN⟩:∃W2,w6.setCell ⟨w.heap.size,3,none⟩ (.slice p6 L c6)=W2:=⟨_,rfl⟩
 have lj:=aa (show aK W6 w.heap.size [.slice p2 N c2,.slice p4 M c4,.int .i64 ah,.slice p6 L c6,.bool dead] by rw[← rN];exact kS.set 3 _);have Ev:=aa (show aK W6 (w.heap.size+1) [.slice none 0 0,.slice none 0 0,.int .i64 0,.slice none 0 0,.bool false] by rw[← rN];exact rH.far (by omega) _ _);have pP:=aa (show cX W6 (w.heap.size+2) ⟨kept,cache,ah,keep,dead⟩ (.slice p2 N c2) (.slice p4 M c4) (.slice p6 L c6) by
  rw[← rN];refine cX.bc ⟨?_,?_,?_,fJ⟩ (by omega)
  ·rw[HN.o];exact aL U9 cU.o
  ·rw[HM.o];exact aL Rx cU.o
  ·rw[HL.o];exact Fg)
 have fw:=aa (show Bw w W6 by rw[← rN];exact (ak bp cU).setCell (p:=⟨w.heap.size,3,none⟩) aT _);rw[rN];clear rN x0 x1 x2 x3 x4 y0 y1;obtain ⟨x0,x1,x2,x3,x4⟩:=lj.five;obtain ⟨z0,z1,z2,z3,z4⟩:=Ev.five;obtain ⟨f0,f1,f2,f3,f4⟩:=Ev.gJ;go_wp2_with fail;have vS:=aa (((((Ev.set 0 (.slice p2 N c2)).set 1 (.slice p4 M c4)).set 2 (.int .i64 ah)).set 3 (.slice p6 L c6)).set 4 (.bool dead));simp only[List.set_cons_zero,List.set_cons_succ] at vS;obtain ⟨g0,g1,g2,g3,g4⟩:=vS.five;refine au (v:=.agg #[.slice p2 N c2,.slice p4 M c4,.int .i64 ah,.slice p6 L c6,.bool dead]) ⟨_,_,_,rfl,cX.mono (((((pP.bc (by omega)).bc (by omega)).bc (by omega)).bc (by omega)).bc (by omega)) (by omega),((((fw.setCell (p:=⟨w.heap.size+1,0,none⟩) (Nat.le_succ _) _).setCell (p:=⟨w.heap.size+1,1,none⟩) (Nat.le_succ _) _).setCell (p:=⟨w.heap.size+1,2,none⟩) (Nat.le_succ _) _).setCell (p:=⟨w.heap.size+1,3,none⟩) (Nat.le_succ _) _).setCell (p:=⟨w.heap.size+1,4,none⟩) (Nat.le_succ _) _⟩ ?_;simp[results,results135,go_sem,g0,g1,g2,g3,g4]
def lH (c:List (List aj)):Bool:=c.all (fun t=>decide (t.length≤40))&&decide (c.length≤40)
theorem EZ (x:List (List aj)) (v1:Value) (w:World) (h1:dH w v1 x):Calls prog 23 #[v1] w fun e w'=>e=.returned (.bool (lH x))∧Bw w w':=by
 obtain ⟨p,cp,rfl,a1,a2,ha⟩:=h1;have HA:=aa ha;obtain ⟨N,hN⟩:=aG x.length;rw[hN] at a1;rw[hN];have hlc:=fG (n:=N) a2;have HN:=aa hN;clear ha hN a1 a2;go_enter func23,ntmps23;go_wp2_with fail;go_loopw [3] (fun i wr=>∃k:Nat,k≤N∧i=.int .i64 k∧(∀(j:Nat) t,j<k→x[j]?=some t→t.length≤40)∧Bw w wr) (fun i _=>N-(intOf i).toNat)
 case atStart=>exact ⟨0,dO,rfl,fun j _ hj=>by omega,aH⟩
 case round=>
  obtain ⟨k,hk,rfl,hall,hb⟩:=hrel;have ed:=aa hall;have HB:=aa hb;clear hall hb;by_cases hlt:k<N
  case neg=>
   obtain rfl:k=N:=by omega
   have HF:=aa (show lH x=decide (k≤40) by
    unfold lH;rw[show x.all (fun t=>decide (t.length≤40))=true from List.all_eq_true.2 fun t ht=>by
     obtain ⟨j,hj⟩:=List.getElem?_of_mem ht;exact decide_eq_true (ed.o j t (by have:=(List.getElem?_eq_some_iff.1 hj).1;rw[HN.o] at this;exact this) hj),HN.o,Bool.true_and])
   by_cases h40:k≤40
   ·have d0:decide ((k:Int)≤40)=true:=decide_eq_true (by omega)
    have d1:decide (k≤40)=true:=decide_eq_true h40;have HD:=aa d1;go_wp2_with fail;go_ret;exact ⟨aN (by rw[HF.o,HD.o]),HB⟩
   ·have d0:decide ((k:Int)≤40)=false:=decide_eq_false (by omega)
    have d1:decide (k≤40)=false:=decide_eq_false h40;have HD:=aa d1;go_wp2_with fail;go_ret;exact ⟨aN (by rw[HF.o,HD.o]),HB⟩
  have fN:(k:Int)<(N:Int):=by omega
  obtain ⟨s,hs⟩:=fx (l:=x) (k:=k) (by rw[HN.o];omega);obtain ⟨g,o,u1,rfl,x1,x2⟩:=HA.o k _ hs;obtain ⟨pu,cu,rfl,b1,b2,_⟩:=id x2;have r0:=ae HB x1;have HS:=aa hs;obtain ⟨M,hM⟩:=aG s.length;rw[hM] at r0 b1;have HM:=aa hM;have Ys:=fG (n:=M) b2;clear hs x1 x2 hM b1 b2;by_cases h40:M≤40
  ·have d0:decide (40<(M:Int))=false:=decide_eq_false (by omega)
   have d1:decide (40<M)=false:=decide_eq_false (by omega);have H40:=aa h40;clear h40;go_wp2_with fail;go_roundw
   case rel=>
    refine ⟨k+1,by omega,by go_num,fun j t hj ht=>?_,HB.o⟩;by_cases e:j=k
    ·subst e;rw[HS.o] at ht;cases ht;rw[HM.o];exact H40.o
    ·exact ed j t (by omega) ht
   case measure=>simp[intOf];omega
  ·have d0:decide (40<(M:Int))=true:=decide_eq_true (by omega)
   have d1:decide (40<M)=true:=decide_eq_true (by omega);have HF:=aa (show lH x=false by
    unfold lH;rw[show x.all (fun t=>decide (t.length≤40))=false from by rw[← Bool.not_eq_true,List.all_eq_true];intro h;have:=of_decide_eq_true (h s (List.mem_of_getElem? HS));rw[HM.o] at this;exact h40 this];rfl)
   clear h40;go_wp2_with fail;go_ret;exact ⟨aN HF.symm,HB⟩
def gT (p:cm):Bool:=tT p.disk&&(kC p.aw&&(lH p.tabs&&decide (p.aw.length≤8)))
theorem Ce {p:cm}:gT p=true↔tT p.disk=true∧kC p.aw=true∧lH p.tabs=true∧p.aw.length≤8:=by unfold gT;simp only[Bool.and_eq_true,decide_eq_true_eq]
theorem E0 (p:cm) (v:PV) (w:World) (h:br w p v):Calls prog 8 #[eY p v] w fun e w'=>e=.returned (.bool (gT p))∧Bw w w':=by
 have HK:=aa (fun W (hb:Bw w W)=>I0 p.disk v.k v.c v.p W (h.disk.below hb));have HV:=aa (fun W (hb:Bw w W)=>D6 p.aw v.v W (h.aw.keep (af hb)));have HT:=aa (fun W (hb:Bw w W)=>EZ p.tabs v.t W (h.tabs.keep (af hb)));obtain ⟨bK,hbK⟩:∃b,tT p.disk=b:=⟨_,rfl⟩
 obtain ⟨bV,hbV⟩:∃b,kC p.aw=b:=⟨_,rfl⟩
 obtain ⟨bT,hbT⟩:∃b,lH p.tabs=b:=⟨_,rfl⟩
 rw[hbK] at HK;rw[hbV] at HV;rw[hbT] at HT;obtain ⟨r,hr⟩:=aG (gT p);rw[hr];unfold gT at hr;rw[hbK,hbV,hbT] at hr;have HR:=aa hr;obtain ⟨pv,cv,ev,hcv,hcm,_⟩:=h.aw;obtain ⟨pk,nk,ck,pc,nc,cc,pp,np,cp,pv',nv,cv',pt,nt,ct,rfl⟩:=h.sl;simp only at ev;injection ev with e1 e2 e3;subst e1;subst e3;unfold ew at HK;unfold eY;simp only at HK HV HT ⊢;clear h hbK hbV hbT hr;obtain ⟨⟨kept,cache,ah,keep,dead⟩,met,gen,aF,aw,tabs⟩:=p;simp only at HK HR e2 hcv ⊢;rw[← e2] at HR;have hlv:(nv:Int)≤9223372036854775807:=by unfold maxLen at hcm;omega
 clear e2 hcv hcm;obtain ⟨W1,hW1⟩:=aG (w.alloc (.cells #[.slice pk nk ck,.slice pc nc cc,.int .i64 ah,.slice pp np cp,.bool dead,.int .i64 met,.int .i64 gen,.int .i64 aF,.slice pv' nv cv',.slice pt nt ct] 30));have aU:=aa (show aK W1 w.heap.size [.slice pk nk ck,.slice pc nc cc,.int .i64 ah,.slice pp np cp,.bool dead,.int .i64 met,.int .i64 gen,.int .i64 aF,.slice pv' nv cv',.slice pt nt ct] by rw[← hW1];exact aK.new w _ _);have aY:=aa (show Bw w W1 by rw[← hW1];exact ar);have ee:=aa hW1;clear hW1;go_enter func8,ntmps8;go_upto_region 1 with fail;rw[ee.o];clear ee;obtain ⟨a0,a1,a2,a3,a4,a5,a6,a7,a8,a9⟩:=aU.ten;cases bK with
 |false=>have HF:=aa (show r=false by rw[← HR.o];rfl);go_wp2_with (go_at_call 21;(refine (HK.o _ aY.o).mono ?_);rintro e w2 ⟨rfl,hb⟩;have bS:=bh aY hb;clear hb);go_ret;exact ⟨aN HF.symm,bS⟩
 |true=>
 cases bV with
 |false=>have HF:=aa (show r=false by rw[← HR.o];rfl);go_wp2_with (first|(go_at_call 21;(with_reducible refine (HK.o _ aY.o).mono ?_);rintro e w2 ⟨rfl,hb⟩;have bS:=bh aY hb;have dV:=aa (aU.o.below hb);clear hb;have b8:=dV.o.cell (j:=8) rfl)|(go_at_call 22;(with_reducible refine (HV.o _ bS.o).mono ?_);rintro e w3 ⟨rfl,hb⟩;have dF:=bh bS hb;clear hb));go_ret;exact ⟨aN HF.symm,dF⟩
 |true=>
 cases bT with
 |false=>have HF:=aa (show r=false by rw[← HR.o];rfl);go_wp2_with (first|(go_at_call 21;(with_reducible refine (HK.o _ aY.o).mono ?_);rintro e w2 ⟨rfl,hb⟩;have bS:=bh aY hb;have dV:=aa (aU.o.below hb);clear hb;have b8:=dV.o.cell (j:=8) rfl)|(go_at_call 22;(with_reducible refine (HV.o _ bS.o).mono ?_);rintro e w3 ⟨rfl,hb⟩;have dF:=bh bS hb;have kD:=aa (dV.o.below hb);clear hb;have b9:=kD.o.cell (j:=9) rfl)|(go_at_call 23;(with_reducible refine (HT.o _ dF.o).mono ?_);rintro e w4 ⟨rfl,hb⟩;have fW:=bh dF hb;clear hb));go_ret;exact ⟨aN HF.symm,fW⟩
 |true=>
 by_cases h8:nv≤8
 case pos=>have HF:=aa (show r=true by rw[← HR.o,decide_eq_true h8];rfl);have d0:decide ((nv:Int)≤8)=true:=decide_eq_true (by omega);have d1:decide (nv≤8)=true:=decide_eq_true h8;clear h8;go_wp2_with (first|(go_at_call 21;(with_reducible refine (HK.o _ aY.o).mono ?_);rintro e w2 ⟨rfl,hb⟩;have bS:=bh aY hb;have dV:=aa (aU.o.below hb);clear hb;have b8:=dV.o.cell (j:=8) rfl)|(go_at_call 22;(with_reducible refine (HV.o _ bS.o).mono ?_);rintro e w3 ⟨rfl,hb⟩;have dF:=bh bS hb;have kD:=aa (dV.o.below hb);clear hb;have b9:=kD.o.cell (j:=9) rfl)|(go_at_call 23;(with_reducible refine (HT.o _ dF.o).mono ?_);rintro e w4 ⟨rfl,hb⟩;have fW:=bh dF hb;have jK:=aa (kD.o.below hb);clear hb;have b10:=jK.o.cell (j:=8) rfl));go_ret;exact ⟨aN HF.symm,fW⟩
 case neg=>have HF:=aa (show r=false by rw[← HR.o,decide_eq_false h8];rfl);have d0:decide ((nv:Int)≤8)=false:=decide_eq_false (by omega);have d1:decide (nv≤8)=false:=decide_eq_false h8;clear h8;go_wp2_with (first|(go_at_call 21;(with_reducible refine (HK.o _ aY.o).mono ?_);rintro e w2 ⟨rfl,hb⟩;have bS:=bh aY hb;have dV:=aa (aU.o.below hb);clear hb;have b8:=dV.o.cell (j:=8) rfl)|(go_at_call 22;(with_reducible refine (HV.o _ bS.o).mono ?_);rintro e w3 ⟨rfl,hb⟩;have dF:=bh bS hb;have kD:=aa (dV.o.below hb);clear hb;have b9:=kD.o.cell (j:=9) rfl)|(go_at_call 23;(with_reducible refine (HT.o _ dF.o).mono ?_);rintro e w4 ⟨rfl,hb⟩;have fW:=bh dF hb;have jK:=aa (kD.o.below hb);clear hb;have b10:=jK.o.cell (j:=8) rfl));go_ret;exact ⟨aN HF.symm,fW⟩
def mJ (p q:cm):Bool:=qZ p.disk q.disk&&(p.met==q.met&&(p.gen==q.gen&&(p.aF==q.aF&&(jP p.aw q.aw&&kY p.tabs q.tabs))))
theorem ye (p q:cm) (v v':PV) (w:World) (h:br w p v) (h':br w q v') (ls:bM p.aw) (ls':bM q.aw):Calls prog 12 #[eY p v,eY q v'] w fun e w'=>e=.returned (.bool (mJ p q))∧Bw w w':=by
 have HK:=aa (fun W (hb:Bw w W)=>Lt p.disk q.disk v.k v.c v.p v'.k v'.c v'.p W (h.disk.below hb) (h'.disk.below hb));have HV:=aa (fun W (hb:Bw w W)=>FY p.aw q.aw v.v v'.v W (h.aw.keep (af hb)) (h'.aw.keep (af hb)) ls ls');have HT:=aa (fun W (hb:Bw w W)=>Gm p.tabs q.tabs v.t v'.t W (h.tabs.keep (af hb)) (h'.tabs.keep (af hb)));obtain ⟨bK,hbK⟩:∃b,qZ p.disk q.disk=b:=⟨_,rfl⟩
 obtain ⟨bV,hbV⟩:∃b,jP p.aw q.aw=b:=⟨_,rfl⟩
 obtain ⟨bT,hbT⟩:∃b,kY p.tabs q.tabs=b:=⟨_,rfl⟩
 rw[hbK] at HK;rw[hbV] at HV;rw[hbT] at HT;obtain ⟨r,hr⟩:=aG (mJ p q);rw[hr];unfold mJ at hr;rw[hbK,hbV,hbT] at hr;have HR:=aa hr;obtain ⟨pk,nk,ck,pc,nc,cc,pp,np,cp,pv,nv,cv,pt,nt,ct,rfl⟩:=h.sl;obtain ⟨GU,nk',Mk,TV,Ko,TW,pp',np',cp',pv',nv',cv',pt',nt',ct',rfl⟩:=h'.sl;unfold ew at HK;unfold eY;simp only at HK HV HT ⊢;clear h h' hbK hbV hbT hr ls ls';obtain ⟨⟨kept,cache,ah,keep,dead⟩,met,gen,aF,aw,tabs⟩:=p;obtain ⟨⟨kept',ale,Yc,aoH,Yd⟩,Tt,Tu,I1,aoI,aoJ⟩:=q;simp only at HK HR ⊢;obtain ⟨W1,hW1⟩:=aG ((w.alloc (.cells #[.slice pk nk ck,.slice pc nc cc,.int .i64 ah,.slice pp np cp,.bool dead,.int .i64 met,.int .i64 gen,.int .i64 aF,.slice pv nv cv,.slice pt nt ct] 30)).alloc (.cells #[.slice GU nk' Mk,.slice TV Ko TW,.int .i64 Yc,.slice pp' np' cp',.bool Yd,.int .i64 Tt,.int .i64 Tu,.int .i64 I1,.slice pv' nv' cv',.slice pt' nt' ct'] 30));have aU:=aa (yH w [.slice pk nk ck,.slice pc nc cc,.int .i64 ah,.slice pp np cp,.bool dead,.int .i64 met,.int .i64 gen,.int .i64 aF,.slice pv nv cv,.slice pt nt ct] [.slice GU nk' Mk,.slice TV Ko TW,.int .i64 Yc,.slice pp' np' cp',.bool Yd,.int .i64 Tt,.int .i64 Tu,.int .i64 I1,.slice pv' nv' cv',.slice pt' nt' ct'] 30 30);rw[hW1] at aU;have ee:=aa hW1;clear hW1;go_enter func12,ntmps12;go_upto_region 1 with fail;rw[ee.o];clear ee;obtain ⟨a0,a1,a2,a3,a4,a5,a6,a7,a8,a9⟩:=aU.1.ten;obtain ⟨b0,b1,b2,b3,b4,b5,b6,b7,b8,b9⟩:=aU.2.1.ten;cases bK with
 |false=>have HF:=aa (show r=false by rw[← HR.o];rfl);go_wp2_with (first|(go_at_call 46;(with_reducible refine (HK.o _ aU.o.2.2).mono ?_);rintro e w2 ⟨rfl,hb⟩;have bS:=aa (ak aU.o.2.2 hb);have dV:=aa (aU.o.1.below hb);have nW:=aa (aU.o.2.1.below hb);clear hb;have c5:=dV.o.cell (j:=5) rfl;have c6:=dV.o.cell (j:=6) rfl;have c7:=dV.o.cell (j:=7) rfl;have c8:=dV.o.cell (j:=8) rfl;have d5:=nW.o.cell (j:=5) rfl;have d6:=nW.o.cell (j:=6) rfl;have d7:=nW.o.cell (j:=7) rfl;have d8:=nW.o.cell (j:=8) rfl));go_ret;exact ⟨aN HF.symm,bS⟩
 |true=>
 by_cases e_met:met=Tt
 case neg=>
  have HF:=aa (show r=false by rw[← HR.o,show (met==Tt)=false by simpa using e_met];(first|rfl|simp));have dd:(met==Tt)=false:=by simpa using e_met
  clear e_met;go_wp2_with (first|(go_at_call 46;(with_reducible refine (HK.o _ aU.o.2.2).mono ?_);rintro e w2 ⟨rfl,hb⟩;have bS:=aa (ak aU.o.2.2 hb);have dV:=aa (aU.o.1.below hb);have nW:=aa (aU.o.2.1.below hb);clear hb;have c5:=dV.o.cell (j:=5) rfl;have c6:=dV.o.cell (j:=6) rfl;have c7:=dV.o.cell (j:=7) rfl;have c8:=dV.o.cell (j:=8) rfl;have d5:=nW.o.cell (j:=5) rfl;have d6:=nW.o.cell (j:=6) rfl;have d7:=nW.o.cell (j:=7) rfl;have d8:=nW.o.cell (j:=8) rfl));go_ret;exact ⟨aN HF.symm,bS⟩
 case pos=>
 subst e_met;have aoK:(met==met)=true:=by simp
 by_cases e_gen:gen=Tu
 case neg=>
  have HF:=aa (show r=false by rw[← HR.o,show (gen==Tu)=false by simpa using e_gen];(first|rfl|simp));have dd:(gen==Tu)=false:=by simpa using e_gen
  clear e_gen;go_wp2_with (first|(go_at_call 46;(with_reducible refine (HK.o _ aU.o.2.2).mono ?_);rintro e w2 ⟨rfl,hb⟩;have bS:=aa (ak aU.o.2.2 hb);have dV:=aa (aU.o.1.below hb);have nW:=aa (aU.o.2.1.below hb);clear hb;have c5:=dV.o.cell (j:=5) rfl;have c6:=dV.o.cell (j:=6) rfl;have c7:=dV.o.cell (j:=7) rfl;have c8:=dV.o.cell (j:=8) rfl;have d5:=nW.o.cell (j:=5) rfl;have d6:=nW.o.cell (j:=6) rfl;have d7:=nW.o.cell (j:=7) rfl;have d8:=nW.o.cell (j:=8) rfl));go_ret;exact ⟨aN HF.symm,bS⟩
 case pos=>
 subst e_gen;have aoL:(gen==gen)=true:=by simp
 by_cases e_area:aF=I1
 case neg=>
  have HF:=aa (show r=false by rw[← HR.o,show (aF==I1)=false by simpa using e_area];(first|rfl|simp));have dd:(aF==I1)=false:=by simpa using e_area
  clear e_area;go_wp2_with (first|(go_at_call 46;(with_reducible refine (HK.o _ aU.o.2.2).mono ?_);rintro e w2 ⟨rfl,hb⟩;have bS:=aa (ak aU.o.2.2 hb);have dV:=aa (aU.o.1.below hb);have nW:=aa (aU.o.2.1.below hb);clear hb;have c5:=dV.o.cell (j:=5) rfl;have c6:=dV.o.cell (j:=6) rfl;have c7:=dV.o.cell (j:=7) rfl;have c8:=dV.o.cell (j:=8) rfl;have d5:=nW.o.cell (j:=5) rfl;have d6:=nW.o.cell (j:=6) rfl;have d7:=nW.o.cell (j:=7) rfl;have d8:=nW.o.cell (j:=8) rfl));go_ret;exact ⟨aN HF.symm,bS⟩
 case pos=>
 subst e_area;have alf:(aF==aF)=true:=by simp
 have jO:=aa (show (bV&&bT)=r by have h:=HR.o;simpa using h);cases bV with
 |false=>have HF:=aa (show r=false by rw[← jO.o];rfl);go_wp2_with (first|(go_at_call 46;(with_reducible refine (HK.o _ aU.o.2.2).mono ?_);rintro e w2 ⟨rfl,hb⟩;have bS:=aa (ak aU.o.2.2 hb);have dV:=aa (aU.o.1.below hb);have nW:=aa (aU.o.2.1.below hb);clear hb;have c5:=dV.o.cell (j:=5) rfl;have c6:=dV.o.cell (j:=6) rfl;have c7:=dV.o.cell (j:=7) rfl;have c8:=dV.o.cell (j:=8) rfl;have d5:=nW.o.cell (j:=5) rfl;have d6:=nW.o.cell (j:=6) rfl;have d7:=nW.o.cell (j:=7) rfl;have d8:=nW.o.cell (j:=8) rfl)|(go_at_call 47;(with_reducible refine (HV.o _ bS.o).mono ?_);rintro e w3 ⟨rfl,hb⟩;have dF:=bh bS hb;have kD:=aa (dV.o.below hb);have HY3:=aa (nW.o.below hb);clear hb;have e9:=kD.o.cell (j:=9) rfl;have f9:=HY3.o.cell (j:=9) rfl));go_ret;exact ⟨aN HF.symm,dF⟩
 |true=>
 cases bT with
 |false=>have HF:=aa (show r=false by rw[← jO.o];rfl);go_wp2_with (first|(go_at_call 46;(with_reducible refine (HK.o _ aU.o.2.2).mono ?_);rintro e w2 ⟨rfl,hb⟩;have bS:=aa (ak aU.o.2.2 hb);have dV:=aa (aU.o.1.below hb);have nW:=aa (aU.o.2.1.below hb);clear hb;have c5:=dV.o.cell (j:=5) rfl;have c6:=dV.o.cell (j:=6) rfl;have c7:=dV.o.cell (j:=7) rfl;have c8:=dV.o.cell (j:=8) rfl;have d5:=nW.o.cell (j:=5) rfl;have d6:=nW.o.cell (j:=6) rfl;have d7:=nW.o.cell (j:=7) rfl;have d8:=nW.o.cell (j:=8) rfl)|(go_at_call 47;(with_reducible refine (HV.o _ bS.o).mono ?_);rintro e w3 ⟨rfl,hb⟩;have dF:=bh bS hb;have kD:=aa (dV.o.below hb);have HY3:=aa (nW.o.below hb);clear hb;have e9:=kD.o.cell (j:=9) rfl;have f9:=HY3.o.cell (j:=9) rfl)|(go_at_call 48;(with_reducible refine (HT.o _ dF.o).mono ?_);rintro e w4 ⟨rfl,hb⟩;have fW:=bh dF hb;clear hb));go_ret;exact ⟨aN HF.symm,fW⟩
 |true=>have HF:=aa (show r=true by rw[← jO.o];rfl);go_wp2_with (first|(go_at_call 46;(with_reducible refine (HK.o _ aU.o.2.2).mono ?_);rintro e w2 ⟨rfl,hb⟩;have bS:=aa (ak aU.o.2.2 hb);have dV:=aa (aU.o.1.below hb);have nW:=aa (aU.o.2.1.below hb);clear hb;have c5:=dV.o.cell (j:=5) rfl;have c6:=dV.o.cell (j:=6) rfl;have c7:=dV.o.cell (j:=7) rfl;have c8:=dV.o.cell (j:=8) rfl;have d5:=nW.o.cell (j:=5) rfl;have d6:=nW.o.cell (j:=6) rfl;have d7:=nW.o.cell (j:=7) rfl;have d8:=nW.o.cell (j:=8) rfl)|(go_at_call 47;(with_reducible refine (HV.o _ bS.o).mono ?_);rintro e w3 ⟨rfl,hb⟩;have dF:=bh bS hb;have kD:=aa (dV.o.below hb);have HY3:=aa (nW.o.below hb);clear hb;have e9:=kD.o.cell (j:=9) rfl;have f9:=HY3.o.cell (j:=9) rfl)|(go_at_call 48;(with_reducible refine (HT.o _ dF.o).mono ?_);rintro e w4 ⟨rfl,hb⟩;have fW:=bh dF hb;clear hb));go_ret;exact ⟨aN HF.symm,fW⟩
end Go.Proofs.YtbigkioechkngaaGreat
