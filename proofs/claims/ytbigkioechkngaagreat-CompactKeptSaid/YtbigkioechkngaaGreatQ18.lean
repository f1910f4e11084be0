/- The proof, part 19. -/
import Derived.Test.YtbigkioechkngaaGreatQ12
set_option maxRecDepth 100000
set_option maxHeartbeats 8000000
namespace Go.Proofs.YtbigkioechkngaaGreat
open Go.RowKit
theorem pA {f:List Int} (hf:∀x∈f,0≤x) (hs:f.sum≤1000):∀x∈f,x≤1000:=by
 intro x hx;obtain ⟨s,t,rfl⟩:=List.append_of_mem hx;have key:∀l:List Int,(∀x∈l,0≤x)→0≤l.sum:=by
  intro l
  induction l with
  |nil=>intro _;simp
  |cons a l ih=>intro h;have:=ih (fun x hx=>h x (by simp[hx]));have:=h a (by simp);rw[List.sum_cons];omega
 have h1:=key s (fun x hx=>hf x (by simp[hx]));have h2:=key t (fun x hx=>hf x (by simp[hx]));rw[List.sum_append,List.sum_cons] at hs;omega
theorem Ig (k:Nat):List.replicate k (0:Int)++[0]=List.replicate (k+1) 0:=by rw[← List.replicate_succ']
def Oc1 (w:World) (f:List Int) (N:Nat) (vo vl i:Value) (wr:World):Prop:=
 ∃(k n:Nat) (xo xl:Value),k≤N∧i=.int .i64 k∧xo=vo∧xl=vl∧n=(cm f k).length∧n≤k∧wr.ownsRow w.heap.size 3 1 xo k (bB (List.replicate k 0))∧dC wr w.heap.size xo xl n (cm f k)∧Bw w wr
def OcS (w:World) (f:List Int) (N n:Nat) (l:List dX) (xo xl:Value) (wr:World):Prop:=
 ∃(fu:Nat) (out:List Int),n≤fu+1∧n≤N∧nP N l out∧oB fu l out=iT f∧wr.ownsRow w.heap.size 3 1 xo N (bB out)∧dC wr w.heap.size xo xl n l∧Bw w wr
def Oc2 (w:World) (f:List Int) (N:Nat) (xo vl:Value) (wr:World):Prop:=
 ∃(n:Nat) (l:List dX) (xl:Value),xl=vl∧OcS w f N n l xo xl wr
def yq (W:World) (b:Nat) (x y:Int) (v:Value):Prop:=W.cell? ⟨b,0,none⟩=some (.int .i64 x)∧W.cell? ⟨b,1,none⟩=some (.int .i64 y)∧W.cell? ⟨b,2,none⟩=some v
theorem yq.below {W W':World} {b:Nat} {x y:Int} {v:Value} (h:yq W b x y v) (hb:Bw W W'):yq W' b x y v:=⟨ae hb h.1,ae hb h.2.1,ae hb h.2.2⟩
theorem yq.grown {W W':World} {b:Nat} {x y:Int} {v:Value} {row:Option Nat} (h:yq W b x y v) (hg:W.grownBy W' row) (hne:some b≠row):yq W' b x y v:=⟨hg.cell h.1 hne,hg.cell h.2.1 hne,hg.cell h.2.2 hne⟩
theorem dC.empty (W:World) (B:Nat) (vo:Value) (hB:B≤W.heap.size):dC (W.alloc (.cells #[] 283)) B vo (.slice (some ⟨W.heap.size,0,none⟩) 0 0) 0 []:=
 ⟨[],rfl,rfl,World.ownsRow_made W #[] 0 hB (by unfold maxLen;omega) rfl,fun x hx=>by simp at hx⟩
theorem SX {f:List Int} {k:Nat} {x:Int} (h:f[k]?=some x) (hp:0<x):cm f (k+1)=cm f k++[⟨x,(k:Nat),[(k:Nat)]⟩]:=by rw[cm];unfold sV;rw[h];simp only[Option.getD_some];rw[if_pos hp]
theorem Ww {f:List Int} {k:Nat} {x:Int} (h:f[k]?=some x) (hp:¬0<x):cm f (k+1)=cm f k:=by rw[cm];unfold sV;rw[h];simp only[Option.getD_some];rw[if_neg hp,List.append_nil]
theorem SY (f:List Int) (v1:Value) (w:World) (h1:fD w v1 f) (hl:f.length≤300) (hf:∀x∈f,0≤x) (hs:f.sum≤1000):Calls Tryz.prog 225 #[v1] w fun e w'=>∃v,e=.returned v∧w'.ownsRow w.heap.size 3 1 v f.length (bB (iT f))∧Bw w w':=by
 obtain ⟨p,c,rfl,hc1,hc2,ha⟩:=h1;have HA:=aa ha;have HST:=aa (Db hf hs);have HFX:=aa (pA hf hs);obtain ⟨N,hN⟩:=aG f.length;rw[hN] at hc1 hl HST;rw[hN];have HN:=aa hN;have HF:=aa hf;have HP:=aa (show oB N (cm f N) (pd f (cm f N))=iT f by unfold iT;rw[hN]);have HL:=aa hl;have b1:(N:Int)≤300:=by omega
 have xI:=aa (World.ownsRow_made w #[] 0 (Nat.le_refl w.heap.size) (by unfold maxLen;omega) rfl:(w.alloc (.cells #[] 3)).ownsRow w.heap.size 3 1 (.slice (some ⟨w.heap.size,0,none⟩) 0 0) 0 []);clear ha hN hl hc1 hc2 hf hs;go_enter Tryz.func225,Tryz.ntmps225;go_wp2_with fail;have HT0:=aa (dC.empty (w.alloc (.cells #[] 3)) w.heap.size (.slice (some ⟨w.heap.size,0,none⟩) 0 0) (by simp));have GY:=aa (aM xI (aH.alloc aT (.cells #[] 283)));go_loopw [3,4,5] (fun vo vl i wr=>Oc1 w f N vo vl i wr) (fun _ _ i _=>N-(intOf i).toNat)
 case atStart=>exact ⟨0,0,_,_,dQ,rfl,rfl,rfl,rfl,aT,GY,by simpa [cm] using HT0.o,(aq).alloc (by simp) _⟩
 case round=>
  obtain ⟨k,n,xo,xl,hk,rfl,rfl,rfl,hn,hnk,hro,htr,hb⟩:=hrel;have lz:=aa hn;have Vk:=aa hnk;have AJ:=aa hro;have ZY:=aa htr;have HB:=aa hb;have aeQ:=aa (cR htr.choose_spec.2.2.1 hro (by decide));clear hn hnk hro htr hb HT0 GY xI;by_cases hlt:k<N
  ·have fO:(k:Int)<(N:Int):=by omega
   obtain ⟨x,hx⟩:=fy (l:=f) (k:=k) (by rw[HN.o];exact hlt);obtain ⟨SZ,g,o,rfl,r0⟩:=HA.o k x hx;have HX:=aa hx;have ak5:x≤1000:=HFX.o x (List.mem_of_getElem? hx);have xI:=aa r0;replace r0:=ae HB r0;obtain ⟨g2,c2,w2,hrun,cj⟩:=xZ wr w.heap.size k xo (List.replicate k 0) 0 AJ (by have:=HL.o;omega) HB.size;have dM:=aa hrun;have Cs:=aa (show w2.ownsRow w.heap.size 3 1 (.slice (some ⟨g2,0,none⟩) (k+1) c2) (k+1) (bB (List.replicate (k+1) 0)) by rw[← Ig,← Az];exact cj.row);have wS:=aa (ZY.o.out cj.grown aeQ cj.slice);have bU:=aa (HB.trans cj.below);have r1:w2.cell? ⟨g,o+k,none⟩=some (.int .i64 x):=cj.cells _ _ r0 (fun e=>by
    have h1:=(AJ.lt _ e.symm).1;have h2:=World.block_lt_of_cell? _ _ xI.o;simp only at h1 h2;omega)
   clear hrun cj;by_cases hx0:0<x
   ·have JY:=aa (SX HX hx0)
    obtain ⟨W3,hW3⟩:∃W,w2.alloc (.cells #[.int .i64 (k:Nat)] 3)=W:=⟨_,rfl⟩
    have hb3:Bw w2 W3:=by rw[← hW3];exact aq
    have pV:W3.ownsRow w2.heap.size 3 1 (.slice (some ⟨w2.heap.size,0,none⟩) 1 1) 1 (bn sI [(k:Int)]):=by rw[← hW3,rW];exact RH w2 _ 1 1 _ #[.int .i64 (k:Nat)] aT (by unfold maxLen;omega) rfl
    obtain ⟨xs,x1,x2,x3,x4⟩:=wS.below hb3;have zM:=(Cs.lt g2 rfl).2;have Gp:dx (mask (EN (.slice (some ⟨g2,0,none⟩) (k+1) c2) xl) W3) (.slice (some ⟨w2.heap.size,0,none⟩) 1 1) 1 sI [(k:Int)]:=
     oC uU rfl pV (fun b hb=>by
      simp only[Value.ownBlock,Option.some.injEq] at hb;subst hb;refine ⟨by simp only[Value.ownBlock,ne_eq,Option.some.injEq];omega,fun e=>?_⟩;obtain ⟨ys,y1,y2,y3,y4⟩:=wS.o;have:=(y3.lt _ e.symm).2;omega)
    obtain ⟨g4,c4,w4,Dw,pB⟩:=AA W3 w.heap.size n xl xs x (k:Nat) (.slice (some ⟨w2.heap.size,0,none⟩) 1 1) rfl [(k:Int)] x3 (by have:=Vk.o;have:=HL.o;omega) (Nat.le_trans bU.size hb3.size);rw[show W3.heap.size=w2.heap.size+1 by rw[← hW3];simp,← hW3] at Dw;have S0:=aa Dw;have ZZ:=aa (dC.push x1 x4 Gp pB x2);have OH:=aa ((pB.others _ _ _ _ _ _ (aM Cs hb3) (cR (aM Cs hb3) x3 (by decide))).1);have gz:=aa ((bU.trans (hb3.mono bU.size)).trans pB.below);have hd:decide (0<x)=true:=by simp[hx0]
    clear Dw pB hW3 hb3 pV x1 x2 x3 x4 zM Gp;go_upto_region 7 with (at_builtin;refine Lib.wpList_append_run _ rfl (.tmp 20) (.tmp 21) _ _ rfl _ _ rfl rfl _ _ dM.o ?_);go_upto_region 8 with fail;go_wp2_with (at_builtin;refine Lib.wpList_append_run _ rfl (.tmp 28) (.tmp 37) _ _ rfl _ _ rfl rfl _ _ S0.o ?_);go_roundw
    case rel=>exact ⟨k+1,n+1,_,_,by omega,by go_num,rfl,rfl,by rw[JY.o,List.length_append,← lz.o];rfl,by have:=Vk.o;omega,OH.o,by rw[JY.o];exact ZZ.o,gz.o⟩
    case measure=>simp[intOf];omega
   ·have JY:=aa (Ww HX hx0)
    have hd:decide (0<x)=false:=(by simp[hx0]);go_wp2_with (at_builtin;refine Lib.wpList_append_run _ rfl (.tmp 20) (.tmp 21) _ _ rfl _ _ rfl rfl _ _ dM.o ?_);go_roundw
    case rel=>exact ⟨k+1,n,_,_,by omega,by go_num,rfl,rfl,by rw[JY.o,← lz.o],by have:=Vk.o;omega,Cs.o,by rw[JY.o];exact wS.o,bU.o⟩
    case measure=>simp[intOf];omega
  ·obtain rfl:k=N:=by omega
   obtain ⟨px,mx,cx,uA⟩:=jF ZY.choose_spec.2.2.1;obtain rfl:n=mx:=by
    rcases aK ZY.choose_spec.2.2.1 with ⟨e,e2,_⟩|⟨g,cap,e⟩
    ·rw[uA] at e;injection e with _ e _;omega
    ·rw[uA] at e;injection e with _ e _;exact e.symm
   subst uA;go_upto_if 41 with fail;go_cut [] from 42 to 47 (fun wx=>OcS w f k n (cm f k) xo (.slice px n cx) wx)
   case first=>
    by_cases hn1:n=1
    ·obtain ⟨t,ht⟩:∃t,cm f k=[t]:=List.length_eq_one_iff.1 (by rw[← lz.o,hn1])
     obtain ⟨i,hik,hti,_⟩:=jJ f k t (by rw[ht];simp);obtain ⟨g,cap,xs,e,_⟩:=ZY.rows (by omega);injection e with e1 _ e2;subst e1;subst e2;subst hn1;obtain ⟨r,q0,q1,_⟩:=ZY.cell (i:=0) (t:=t) (by rw[ht];rfl);rw[hti] at q1;replace q1:wr.cell? ⟨g,1,none⟩=some (.int .i64 (i:Nat)):=by simpa using q1
     rcases aK AJ.o with ⟨_,e,_⟩|⟨go,co,rfl⟩
     ·omega
     have Y0:=J6 AJ.o;have z0:wr.cell? ⟨go,i,none⟩=some (.int .i64 0):=AB AJ (by rw[List.getElem?_replicate,if_pos hik]);have z1:=gC AJ i;have aeS:=l9 AJ i (.int .i64 1) (by unfold bB;rw[List.length_map,List.length_replicate];exact hik);have hg:wr.grownBy (wr.setCell ⟨go,i,none⟩ (.int .i64 1)) (Value.slice (some ⟨go,0,none⟩) k co).ownBlock:=aw wr go i _;have HS:=aa (show OcS w f k 1 (cm f k) (.slice (some ⟨go,0,none⟩) k co) (.slice (some ⟨g,0,none⟩) 1 cx) (wr.setCell ⟨go,i,none⟩ (.int .i64 1)) from
      ⟨k,pd f (cm f k),by omega,by omega,HST,HP,by
       unfold pd;rw[if_pos (by rw[ht];rfl),ht,HN.o];unfold qR;simp only[List.getElem?_cons_zero,Option.getD_some,hti,Int.toNat_natCast];rw[← rX];exact aeS,ZY.o.out hg aeQ (.inl rfl),HB.grown hg HB.size (fun b hb=>(AJ.lt b hb).1)⟩)
     have iP:(0:Int)≤(i:Int):=(by omega);have asc:(i:Int)<(k:Int):=by omega
     clear aeS hg Y0 q0 ht hti hik;go_wp2_with fail;go_meet
     case rel=>exact HS.o
    ·have HS:=aa (show OcS w f k n (cm f k) xo (.slice px n cx) wr from
      ⟨k,pd f (cm f k),by have:=Vk.o;omega,by have:=Vk.o;omega,HST,HP,by
       unfold pd;rw[if_neg (by rw[← lz.o];exact hn1),HN.o];exact AJ,ZY,HB⟩)
     have ase:(n==1)=false:=(by simp[hn1]);have asf:((n:Int)==1)=false:=by simp;omega
     go_wp2_with fail;go_meet
     case rel=>exact HS.o
   case rest=>
    have ak6:=aa hcut;clear hcut;go_wp2_with fail;go_loopw [4,6,7,8,9,10,11] (fun vl _ _ _ _ _ _ wy=>Oc2 w f k xo vl wy) (fun vl _ _ _ _ _ _ _=>aks vl)
    case atStart=>exact ⟨_,_,_,rfl,ak6⟩
    case round=>
     obtain ⟨n2,l,xl,rfl,fu,out,hfu,hnN,hinv,hon,hro,htr,hb⟩:=hrel;have HFU:=aa hfu;have zH:=aa hnN;have Z0:=aa hinv;have HON:=aa hon;have Cs:=aa hro;have wS:=aa htr;have bU:=aa hb;clear hfu hnN hinv hon hro htr hb;obtain ⟨py,my,cy,uA⟩:=jF wS.choose_spec.2.2.1;obtain rfl:n2=my:=by
      rcases aK wS.choose_spec.2.2.1 with ⟨e,e2,_⟩|⟨g,cap,e⟩
      ·rw[uA] at e;injection e with _ e _;omega
      ·rw[uA] at e;injection e with _ e _;exact e.symm
     subst uA;by_cases jh:1<n2
     case neg=>
      have kQ:=aa (show out=iT f by rw[← HON.o,KF (by rw[wS.o.len];omega)]);have S1:=aa (show wr.ownsRow w.heap.size 3 1 xo k (bB (iT f)) by rw[← kQ.o];exact Cs);have hd:decide ((n2:Int)>1)=false:=by simp;omega
      have Rj:decide (1<n2)=false:=by simp;omega
      clear jh;go_wp2_with fail;go_ret;exact ⟨_,rfl,S1,bU⟩
     case pos=>
     obtain ⟨fu,rfl⟩:∃m,fu=m+1:=⟨fu-1,by have:=HFU.o;omega⟩
     have hl2:2≤l.length:=by rw[wS.o.len];omega
     have aeU:=aa (Z0.two hl2);have pQ:=aa (Z0.step hl2);have Z1:=aa Z0.small;have OI:=aa (show oB fu (Aq l) (C8 l out)=iT f by rw[← HON.o,oB,if_pos hl2]);have L1:=lW (l:=l) (by omega);have xD:Aq l=((l.eraseIdx (cY l)).eraseIdx (cY (l.eraseIdx (cY l))))++[sU (qR l (cY l)) (qR (l.eraseIdx (cY l)) (cY (l.eraseIdx (cY l))))]:=rfl;have hso:C8 l out=gI out ((qR l (cY l)).ins++(qR (l.eraseIdx (cY l)) (cY (l.eraseIdx (cY l)))).ins):=rfl;rw[xD,hso] at pQ OI;obtain ⟨i,hi⟩:=aG (cY l);rw[hi] at pQ OI L1;obtain ⟨a,ha⟩:=aG (qR l i);have hai:l[i]?=some a:=by rw[← ha];unfold qR;rw[List.getElem?_eq_getElem L1.1];rfl
     obtain ⟨l1,BX⟩:∃x,l.eraseIdx i=x:=⟨_,rfl⟩
     rw[ha,BX] at pQ OI;have ak7:l1.length=n2-1:=by rw[← BX,List.length_eraseIdx_of_lt L1.1,wS.o.len]
     have L2:=lW (l:=l1) (by omega);obtain ⟨i2,pX⟩:∃i,cY l1=i:=⟨_,rfl⟩
     rw[pX] at pQ OI L2;obtain ⟨b,jf⟩:=aG (qR l1 i2);have hbi:l1[i2]?=some b:=by rw[← jf];unfold qR;rw[List.getElem?_eq_getElem L2.1];rfl
     obtain ⟨l2,Z2⟩:∃x,l1.eraseIdx i2=x:=⟨_,rfl⟩
     rw[jf,Z2] at pQ OI;have HI:=aa hi;have HAI:=aa hai;have xJ:=aa BX;have JZ:=aa pX;have HBI:=aa hbi;have nW:=aa Z2;have aeV:i<n2:=by have:=L1.1;rw[wS.o.len] at this;exact this
     have S2:i2<n2-1:=by have:=L2.1;rw[ak7] at this;exact this
     obtain ⟨wa,na,ia⟩:=a;obtain ⟨wb,nb,ib⟩:=b;have HTA:=aa (aeU.o _ (List.mem_of_getElem? hai));have KR:=aa (aeU.o _ (by have:=List.mem_of_getElem? hbi;rw[← BX] at this;exact List.mem_of_mem_eraseIdx this));clear hi hai BX pX hbi Z2 L1 L2 ha jf xD hso hl2;obtain ⟨g,cap,xs,e,hc1,hc2,x1,x2,x3,x4,x5⟩:=wS.rows (by omega);injection e with e1 _ e2;subst e1;subst e2;have ao6:n2≤300:=by have:=zH.o;omega
     have ou:=aa (Df xs _ wr x3 (by omega) (by omega));rw[x1,HI.o] at ou;have hd:decide ((n2:Int)>1)=true:=by simp;omega
     have Rj:decide (1<n2)=true:=by simp;omega
     have iP:(0:Int)≤(i:Int):=(by omega);have pV:(i:Int)<(n2:Int):=by omega
     clear x1 x2 x3 x4 x5;go_upto_region 13 with (go_at_call 231;(with_reducible refine ou.o.mono ?_);rintro e w5 ⟨rfl,aR⟩;have bA:=aa aR;clear aR);have HT5:=aa (wS.below bA);have oG:=aa (aM Cs bA);have QO:=aa (ak bU bA);obtain ⟨ra,r0,r1,r2,Z3⟩:=HT5.cell HAI.o;simp only at r0 r1 Z3;have GY:=aa (Z3.keep nO);obtain ⟨pa,ca,rfl,_⟩:=id Z3;obtain ⟨ma,hma⟩:∃m,ia.length=m:=⟨_,rfl⟩
     rw[hma] at r2 GY;have Wx:=aa hma;obtain ⟨W6,oQ⟩:∃W,w5.alloc (.cells #[.int .i64 wa,.int .i64 na,.slice pa ma ca] 283)=W:=⟨_,rfl⟩
     have cW:Bw w5 W6:=by rw[← oQ];exact aq
     have kB:=aa (show yq W6 w5.heap.size wa na (.slice pa ma ca) by rw[← oQ];exact ⟨by simp,by simp,by simp⟩);have HT6:=aa (HT5.below cW);have rU:=aa (aM oG cW);have cQ:=aa cW;have HW6:=aV QO cW;have aeW:=aa (GY.keep (af cW));have aeX:=aa oQ;have aeY:=aa (fun b hb=>(oG.lt b hb).2);clear Z3 hma oQ cW ou GY wS Cs;go_upto_region 14 with fail;rw[aeX.o];clear r0 r1 r2 aeX HT5 oG;obtain ⟨g',cap',xs,e,hc1,hc2,x1,x2,x3,x4,x5⟩:=HT6.rows (by omega);injection e with e1 _ e2;injection e1 with e1;injection e1 with e1 _;subst e1;subst e2;have UJ:=aa (xY _ 0 n2 _ i (xs.map dV) W6 x4 (fun q hq=>by obtain ⟨y,_,rfl⟩:=List.mem_map.1 hq;rfl) (by rw[List.length_map,x2]) aeV hc1 hc2 (by omega));have HER:=aa (fun (W':World) (v':Value) (hb:Bw W6 W') (ho:W'.ownsRow W6.heap.size 283 3 v' (n2-1) ((xs.map dV).eraseIdx i).flatten)=>dC.erase x1 x2 aeV x5 hb HW6.size ho);clear x1 x2 x3 x4 x5;go_upto_region 15 with (go_at_call 232;(with_reducible refine UJ.o.mono ?_);rintro e w7 ⟨v7,rfl,ho7,dO⟩;have pY:=aa ho7;have fg:=aa dO;clear ho7 dO);have ES:=aa (HER.o w7 v7 fg pY);have EZ:=aa (aM rU fg);have HW7:=aa (ak HW6 fg);have ly:=aa (kB.below fg);have ae0:=aa (aeW.keep (af fg));rw[xJ.o] at ES;obtain ⟨m1,zi⟩:∃m,n2-1=m:=⟨_,rfl⟩
     rw[zi] at ES S2;have JO:=aa zi;clear UJ HER pY HT6 rU kB aeW zi;obtain ⟨g7,c7,xs,rfl,hc1,hc2,x1,x2,x3,x4,x5⟩:=ES.rows (by omega);have ash:m1≤300:=by have:=JO.o;omega
     have ou:=aa (Df xs _ w7 x3 (by omega) (by omega));rw[x1,JZ.o] at ou;have asi:(0:Int)≤(i2:Int):=by omega
     have asj:(i2:Int)<(m1:Int):=(by omega);clear x1 x2 x3 x4 x5;go_upto_region 16 with (go_at_call 231;(with_reducible refine ou.o.mono ?_);rintro e w8 ⟨rfl,Cb⟩;have gQ:=aa Cb;clear Cb);have FP:=aa (ES.below gQ);have K2:=aa (aM EZ gQ);have HW8:=aa (ak HW7 gQ);have wI:=aa (ly.below gQ);have ae1:=aa (ae0.keep (af gQ));obtain ⟨rb,r0,r1,r2,QK⟩:=FP.cell HBI.o;simp only at r0 r1 QK;have FO:=aa (QK.keep nO);obtain ⟨pb,cb,rfl,_⟩:=id QK;obtain ⟨mb,Wy⟩:∃m,ib.length=m:=⟨_,rfl⟩
     rw[Wy] at r2 FO;have zr:=aa Wy;obtain ⟨W9,AZ⟩:∃W,w8.alloc (.cells #[.int .i64 wb,.int .i64 nb,.slice pb mb cb] 283)=W:=⟨_,rfl⟩
     have kp:Bw w8 W9:=by rw[← AZ];exact aq
     have Yk:=aa (show yq W9 w8.heap.size wb nb (.slice pb mb cb) by rw[← AZ];exact ⟨by simp,by simp,by simp⟩);have HT9:=aa (FP.below kp);have tU:=aa (aM K2 kp);have km:=aa kp;have HW9:=aV HW8 kp;have Ol:=aa (wI.below kp);have ae3:=aa (ae1.keep (af kp));have ae4:=aa (FO.keep (af kp));have ae5:=aa AZ;have ae6:=aa (fun b hb=>(K2.lt b hb).2);clear QK Wy AZ kp ou FO ES EZ ly ae0;go_upto_region 17 with fail;rw[ae5.o];clear r0 r1 r2 ae5 FP K2 wI ae1;obtain ⟨g',cap',xs,e,hc1,hc2,x1,x2,x3,x4,x5⟩:=HT9.rows (by omega);injection e with e1 _ e2;injection e1 with e1;injection e1 with e1 _;subst e1;subst e2;have UJ:=aa (xY _ 0 m1 _ i2 (xs.map dV) W9 x4 (fun q hq=>by obtain ⟨y,_,rfl⟩:=List.mem_map.1 hq;rfl) (by rw[List.length_map,x2]) S2 hc1 hc2 (by omega));have HER:=aa (fun (W':World) (v':Value) (hb:Bw W9 W') (ho:W'.ownsRow W9.heap.size 283 3 v' (m1-1) ((xs.map dV).eraseIdx i2).flatten)=>dC.erase x1 x2 S2 x5 hb HW9.size ho);clear x1 x2 x3 x4 x5;go_upto_region 18 with (go_at_call 232;(with_reducible refine UJ.o.mono ?_);rintro e G7 ⟨v10,rfl,ae7,R2⟩;have Ih:=aa ae7;have tN:=aa R2;clear ae7 R2);have S4:=aa (HER.o G7 v10 tN Ih);have Ii:=aa (aM tU tN);have ala:=aa (ak HW9 tN);have OJ:=aa (Ol.below tN);have OL:=aa (Yk.below tN);have Ys:=aa (ae3.keep (af tN));have Yt:=aa (ae4.keep (af tN));rw[nW.o] at S4;obtain ⟨m2,zE⟩:∃m,m1-1=m:=⟨_,rfl⟩
     rw[zE] at S4;have CO:=aa zE;clear UJ HER Ih HT9 tU Ol Yk ae3 ae4 zE;have Es:1≤k:=by have:=zH.o;omega
     rcases aK Ii.o with ⟨_,e,_⟩|⟨go,co,rfl⟩
     ·omega
     have hgo:go<G7.heap.size:=(Ii.lt go rfl).2;have hdr:Bw G7 G7.drew:=aH.drew;have alb:ma≤300:=by have:=HTA.2.2.2.2.1;rw[Wx.o] at this;omega
     have alc:mb≤300:=by have:=KR.2.2.2.2.1;rw[zr.o] at this;omega
     obtain ⟨v11,w11,v12,w12,hr1,hr2,MX,ae8,ae9⟩:=Sg G7.drew ia ib _ _ (Ys.keep (af hdr)) (Yt.keep (af hdr)) (by rw[Wx.o];omega) (by rw[zr.o];omega);rw[Wx.o,zr.o] at MX;obtain ⟨mi,Y4⟩:∃m,ma+mb=m:=⟨_,rfl⟩
     obtain ⟨ins,tA⟩:∃m,ia++ib=m:=⟨_,rfl⟩
     rw[Y4,tA] at MX;have afa:=aa hr1;have afb:=aa hr2;have Dx:=aa MX;have K3:=aa (show Bw G7 w12 from hdr.trans ae9);have zj:=aa (show ins.length=mi by rw[← tA,List.length_append,Wx.o,zr.o,Y4]);have OM:=aa tA;have asn:mi≤600:=by omega
     have fL:=aa (show ∀s∈ins,0≤s∧s<k from fun s hs=>by
      rw[← tA] at hs;rcases List.mem_append.1 hs with hs|hs
      ·exact HTA.2.2.2.2.2 s hs
      ·exact KR.2.2.2.2.2 s hs)
     have kR:=aa (And.intro (ae hdr OJ.2.2) (ae hdr OL.2.2));have hal:Bw G7 (G7.alloc (.cells #[] 3)).drew:=(aq).drew;have gG:=aa (And.intro (ae hal OJ.2.2) (ae hal OL.2.2));have h11:Bw G7 w11:=hdr.trans ae8;have afc:=aa (And.intro (ae h11 OJ.2.2) (ae h11 OL.2.2));have afd:=aa (And.intro (ae K3 OJ.2.2) (ae K3 OL.2.2));have MO:=aa hgo;clear hr1 hr2 MX ae8 ae9 Y4 tA hdr hal h11 alb alc hgo Es;obtain ⟨q0,q1⟩:=kR.o;go_region_held3 (fun w'=>w'.cell? ⟨w5.heap.size,2,none⟩=some (.slice pa ma ca)∧w'.cell? ⟨w8.heap.size,2,none⟩=some (.slice pb mb cb))
      (first|with_reducible exact kR.o|with_reducible exact gG.o|with_reducible exact afc.o|with_reducible exact afd.o)
      (first|(refine bE rfl (.tmp 69) (.tmp 71) _ rfl rfl rfl afa.o ?_)|(refine bE rfl (.tmp 72) (.tmp 74) _ rfl rfl rfl afb.o ?_))
     clear q0 q1 kR gG afc afd afa afb;have afe:=aa (S4.below K3);have Z4:=aa (aM Ii K3);have ale:=aa (OJ.below K3);have alf:=aa (OL.below K3);have Z5:=aa (ak ala K3);obtain ⟨pi,mj,ci,hvi⟩:=jF Dx.o;obtain rfl:mi=mj:=by
      rcases aK Dx.o with ⟨e,e2,_⟩|⟨g,cap,e⟩
      ·rw[hvi] at e;injection e with _ e _;omega
      ·rw[hvi] at e;injection e with _ e _;exact e.symm
     subst hvi;have aso:(mi:Int)≤600:=by omega
     have QP:=aa (show w5.heap.size≠go∧w8.heap.size≠go∧(∀b,(Value.slice pi mi ci).ownBlock=some b→G7.heap.size≤b) from
      ⟨by have:=aeY.o go rfl;omega,by have:=ae6.o go rfl;omega,fun b hb=>(Dx.lt b hb).1⟩)
     have Z6:=aa (show eD (Value.slice pi mi ci) (Value.slice (some ⟨go,0,none⟩) k co) by
      rcases UK:(Value.slice pi mi ci).ownBlock with _|b
      ·exact .inl UK
      ·refine .inr fun e=>?_
       have:=QP.2.2 b UK;rw[UK] at e;simp only[Value.ownBlock,Option.some.injEq] at e;have:=MO.o;omega)
     have aff:=aa (fun b hb=>(S4.choose_spec.2.2.1.lt b hb).2);clear S4 Ii OJ OL Ys Yt aeY ae6;go_wp2_with fail;go_loopw [11] (fun i wz=>∃j:Nat,j≤mi∧i=.int .i64 j∧w12.grownBy wz (some go)∧wz.ownsRow w.heap.size 3 1 (.slice (some ⟨go,0,none⟩) k co) k (bB (gI out (ins.take j)))) (fun i _=>mi-(intOf i).toNat)
     case atStart=>exact ⟨0,dQ,rfl,kq _ _,Z4⟩
     case round=>
     obtain ⟨j,hj,rfl,hgz,hrz⟩:=hrel;have Yu:=aa hgz;have Z7:=aa hrz;clear hgz hrz;by_cases hlt3:j<mi
     ·have FI:(j:Int)<(mi:Int):=by omega
      obtain ⟨s,hs⟩:=fy (l:=ins) (k:=j) (by rw[zj.o];exact hlt3);have Sh:=fL.o s (List.mem_of_getElem? hs);obtain ⟨q,rfl⟩:∃q:Nat,s=q:=⟨s.toNat,by omega⟩
      rcases aK Dx.o with ⟨_,e,_⟩|⟨gi,ci',e⟩
      ·omega
      injection e with e1 _ e2;subst e1;subst e2;have c0:wr.cell? ⟨gi,j,none⟩=some (.int .i64 (q:Nat)):=Yu.cell (AB Dx hs) (fun e=>by
       rcases Z6.o with e2|e2
       ·simp[Value.ownBlock] at e2
       ·exact e2 e)
      have hqk:q<(gI out (ins.take j)).length:=by rw[tP,Z1.o.1];omega
      obtain ⟨y,hy⟩:∃y,(gI out (ins.take j))[q]?=some y:=⟨_,List.getElem?_eq_getElem hqk⟩
      have c1:=AB Z7 hy;have c2:=gC Z7 q;have Ch:y≤1000:=by have:=Oe (ins.take j) (M:=15) (fun x hx=>(Z1.2 x hx).2) (by omega) y (List.mem_of_getElem? hy);rw[List.length_take] at this;omega
      have hy0:0≤y:=Av _ (fun x hx=>(Z1.2 x hx).1) y (List.mem_of_getElem? hy);have oD:=aa (show (wr.setCell ⟨go,q,none⟩ (.int .i64 (y+1))).ownsRow w.heap.size 3 1 (.slice (some ⟨go,0,none⟩) k co) k (bB (gI out (ins.take (j+1)))) by
       have h:=l9 Z7 q (.int .i64 (y+1)) (by unfold bB;rw[List.length_map];exact hqk);rw[Hh hs];unfold gy;rw[Int.toNat_natCast,hy,Option.getD_some,← rX];exact h)
      have HGS:=aa (aX Yu (aw wr go q (.int .i64 (y+1))));have hq0:(0:Int)≤(q:Int):=by omega
      have asq:(q:Int)<(k:Int):=(by omega);clear hs Sh hy hqk;go_wp2_with fail;go_roundw
      case rel=>exact ⟨j+1,by omega,by go_num,HGS.o,oD.o⟩
      case measure=>simp[intOf];omega
     ·obtain rfl:j=mi:=by omega
      have afh:=aa (show wr.ownsRow w.heap.size 3 1 (.slice (some ⟨go,0,none⟩) k co) k (bB (gI out ins)) by
       have:=Z7.o;rw[List.take_of_length_le (by rw[zj.o];exact aT)] at this;exact this)
      have HXZ:=aa (ale.grown Yu (fun e=>QP.1 (by injection e)));have HYZ:=aa (alf.grown Yu (fun e=>QP.2.1 (by injection e)));obtain ⟨ys,y1,y2,y3,y4⟩:=id afe.o;have HTZ:=aa (afe.o.out (vo':=.slice (some ⟨go,0,none⟩) k co) Yu (cR y3 Z4 (by decide)) (.inl rfl));clear y1 y2 y3 y4;obtain ⟨xs,x1,x2,x3,x4⟩:=HTZ.o;have Yv:=Dx.kept Yu Z6.o;have Gp:dx (mask (EN (.slice (some ⟨go,0,none⟩) k co) v10) wr) (.slice pi j ci) 1 sI ins:=oC uU zj (by rw[rW];exact Yv) (fun b hb=>⟨by
       rcases Z6.o with e|e
       ·rw[hb] at e;cases e
       ·rw[← hb];exact e,by
       have h1:=QP.2.2 b hb;intro e;have:=(aff.o b e.symm);omega⟩)
      obtain ⟨mn,Y5⟩:∃m,min na nb=m:=⟨_,rfl⟩
      have asu:(if nb<na then nb else na)=mn:=by rw[← Y5];split <;> omega
      obtain ⟨g4,c4,w4,Dw,pB⟩:=AA wr w.heap.size m2 v10 xs (wa+wb) mn (.slice pi j ci) rfl ins x3 (by have:=CO.o;have:=JO.o;omega) (Nat.le_trans Z5.size Yu.size);have S0:=aa Dw;have ZZ:=aa (dC.push x1 x4 Gp pB x2);have OH:=aa ((pB.others _ _ _ _ _ _ afh (cR afh x3 (by decide))).1);have gz:=aa ((Z5.grown Yu Z5.size (fun b hb=>by
       have:=(Z4.lt go rfl).1;injection hb with hb;omega)).trans pB.below)
      have HJ:=aa (show sU ⟨wa,na,ia⟩ ⟨wb,nb,ib⟩=⟨wa+wb,mn,ins⟩ by unfold sU;rw[OM.o,Y5]);have Ws:=aa (show OcS w f k (m2+1) (l2++[⟨wa+wb,mn,ins⟩]) (.slice (some ⟨go,0,none⟩) k co) (.slice (some ⟨g4,0,none⟩) (m2+1) c4) w4 from
       ⟨fu,gI out ins,by have:=HFU.o;have:=JO.o;have:=CO.o;omega,by have:=zH.o;have:=JO.o;have:=CO.o;omega,by have:=pQ.o;rw[HJ.o,OM.o] at this;exact this,by have:=OI.o;rw[HJ.o,OM.o] at this;exact this,OH,ZZ,gz⟩)
      have hwa:=HTA.1;have afi:=HTA.2.1;have hwb:=KR.1;have afj:=KR.2.1;replace hwa:1≤wa:=hwa;replace afi:wa≤1000:=afi;replace hwb:1≤wb:=hwb;replace afj:wb≤1000:=afj;obtain ⟨q0,q1,q2⟩:=HXZ.o;obtain ⟨z0,z1,z2⟩:=HYZ.o;have afk:=aa (show m2+1<n2 by have:=JO.o;have:=CO.o;omega);clear x1 x2 x3 x4 Yv Gp Dw pB Z7;go_wp2_with (at_builtin;refine Lib.wpList_append_run _ rfl _ _ _ _ rfl _ _ rfl rfl _ _ S0.o ?_);go_roundw
      case rel=>exact ⟨_,_,_,rfl,Ws⟩
      case measure=>exact afk.o
end Go.Proofs.YtbigkioechkngaaGreat
