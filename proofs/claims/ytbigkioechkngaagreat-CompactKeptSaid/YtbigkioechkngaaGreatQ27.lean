/- The proof, part 28. -/
import Derived.Test.YtbigkioechkngaaGreatQ25
import Derived.Test.YtbigkioechkngaaGreatQ26
set_option maxRecDepth 100000
set_option maxHeartbeats 8000000
namespace Go.Proofs.YtbigkioechkngaaGreat
open Go.RowKit
def tZ (k:Nat):ByteArray:=⟨(List.replicate k (0:UInt8)).toArray⟩
theorem Jc (l:UInt8):∀k,Lib.repeatL [l] k=List.replicate k l
 |0=>rfl
 |k+1=>by rw[show Lib.repeatL [l] (k+1)=[l]++Lib.repeatL [l] k from rfl,Jc l k];rfl
theorem Pv (c:Nat) (h:c≤32) (w:World):Calls Tryz.prog 82 #[.string ⟨#[0]⟩,.int .i64 c] w fun e w'=>e=.returned (.string (tZ c))∧Bw w w':=by
 refine (Tryz.strings_Repeat ⟨#[0]⟩ c w (by omega) ?_).mono ?_
 ·show 1*c≤_;omega
 ·rintro e w' ⟨rfl,hb⟩
  exact ⟨by rw[show (⟨#[0]⟩:ByteArray).data.toList=[0] from rfl,Jc];rfl,hb⟩
theorem rA (k:Nat):(tZ k).size=k:=by show (List.replicate k (0:UInt8)).toArray.size=k;simp
theorem Br {d:aL} {a:Int} (h:(fq d a).2=0):(fq d a).1.size=32:=by
 unfold fq at h ⊢;by_cases hm:gu d=false
 ·rw[if_pos hm] at h;exact absurd h (by decide)
 rw[if_neg hm] at h ⊢;by_cases hd:d.dead=true
 ·rw[if_pos hd] at h;exact absurd h (by decide)
 rw[if_neg hd] at h ⊢;by_cases hp:a<0∨(d.kept.length:Int)≤a
 ·rw[if_pos hp] at h;exact absurd h (by decide)
 rw[if_neg hp];have zE:gu d=true:=by cases h:gu d <;> simp_all
 obtain ⟨_,h6,h7⟩:=(fW d).1 zE;refine EY ?_ fun p hp=>(h7 p hp).2.2;have hlt:a.toNat<d.kept.length:=by omega
 rw[List.getElem?_eq_getElem hlt,Option.getD_some];exact h6 _ (List.getElem_mem hlt)
theorem nG {d:aL} {b:Int} {s:ByteArray} (h:d.keep.length≤1000000):(cC d b s).1.keep.length≤1000000:=by
 unfold cC;by_cases h1:gu d=false
 ·rw[if_pos h1];exact Nat.zero_le _
 rw[if_neg h1];by_cases h2:d.dead=true
 ·rw[if_pos h2];exact h
 rw[if_neg h2]
 split
 ·exact h
 ·by_cases h4:d.ah=0
  ·rw[if_pos h4]
   show (yU _ _).keep.length≤_;unfold yU
   split <;> exact Nat.zero_le _
  ·rw[if_neg h4]
   split <;> exact h
theorem Bt {s:ByteArray} {left:Int} (h:s.size=32) (h0:0<left):(jm s left).size=32:=by
 unfold jm;by_cases e:left<32
 ·rw[if_pos e,ByteArray.size_append,ByteArray.size_extract]
  show _+(List.replicate (32-left).toNat (0:UInt8)).toArray.size=32;simp;omega
 ·rw[if_neg e];exact h
theorem LN {k:Nat} {d:aL} {a b left:Int} (h:left≤0):fU k d a b left=(d,0):=by
 cases k with
 |zero=>rfl
 |succ k=>unfold fU;rw[if_pos h]
def age (w:World) (F:Nat→Prop) (a b size:Int) (R:aL×Int) (v10 v1 v2:Value) (wr:World):Prop:=
 ∃(k i:Nat) (d:aL) (vk vc vp:Value),v10=.int .i64 (size-32*i)∧v1=.int .i64 (a+i)∧v2=.int .i64 (b+i)∧i≤8 ∧ -32<size-32*i∧size-32*i≤32*k∧R=fU k d (a+i) (b+i) (size-32*i) ∧
  (∃pk nk ck pc nc cc pp np cp,vk=.slice pk nk ck∧vc=.slice pc nc cc∧vp=.slice pp np cp)∧aJ wr w.heap.size [vk,vc,.int .i64 d.ah,vp,.bool d.dead]∧aJ wr (w.heap.size+1) [.slice none 0 0,.slice none 0 0,.int .i64 0,.slice none 0 0,.bool false] ∧
  bP (mask (fun q=>F q∧¬q=w.heap.size∧¬q=w.heap.size+1) wr) d vk vc vp∧d.keep.length≤1000000∧Bw w wr
def YM (F:Nat→Prop) (w:World) (r:aL×Int) (e:Ending) (w':World):Prop:=∃vk vc vp,e=.returned (.tuple #[eE r.1 vk vc vp,.int .i64 r.2])∧bP (mask F w') r.1 vk vc vp∧Bw w w'
theorem Pw (d:aL) (a b size:Int) (vk vc vp:Value) (w:World) (F:Nat→Prop) (hF:∀q,w.heap.size≤q→F q) (h:bP (mask F w) d vk vc vp) (vM:d.keep.length≤1000000) (ha:0≤a∧a≤100000) (hb:0≤b∧b≤100000) (hs:1≤size∧size≤256) :
 Calls Tryz.prog 31 #[eE d vk vc vp,.int .i64 a,.int .i64 b,.int .i64 size] w (YM F w (fU (bQ size).toNat d a b size)):=by
 have HF:=aa hF;obtain ⟨R,hR⟩:=aG (fU (bQ size).toNat d a b size);rw[hR];have YN:size≤32*((bQ size).toNat:Int):=by unfold bQ;rw[if_neg (by omega)];omega
 have HR:=aa hR;have HFU:=aa YN;obtain ⟨pk,ck,rfl,_,_⟩:=h.kept.slice;obtain ⟨pc,cc,rfl,_,_⟩:=h.cache.slice;obtain ⟨pp,cp,rfl,_,_⟩:=h.keep.slice;obtain ⟨KL,hKL⟩:∃n,d.kept.length=n:=⟨_,rfl⟩
 obtain ⟨CL,hCL⟩:∃n,d.cache.length=n:=⟨_,rfl⟩
 obtain ⟨PL,UQ⟩:∃n,d.keep.length=n:=⟨_,rfl⟩
 rw[hKL,hCL,UQ] at h ⊢;unfold eE;have HD:=aa h;have al6:=aa vM;clear h hR YN hKL hCL UQ vM hF;obtain ⟨fz,qi⟩:∃f,d.ah=f:=⟨_,rfl⟩
 obtain ⟨dz,F9⟩:∃f,d.dead=f:=⟨_,rfl⟩
 have Kk:=aa (And.intro qi F9);rw[qi,F9];clear qi F9;obtain ⟨W1,hW1⟩:=aG ((w.alloc (.cells #[.slice pk KL ck,.slice pc CL cc,.int .i64 fz,.slice pp PL cp,.bool dz] 26)).alloc (.cells #[.slice none 0 0,.slice none 0 0,.int .i64 0,.slice none 0 0,.bool false] 26));have aU:=aa (zb w [.slice pk KL ck,.slice pc CL cc,.int .i64 fz,.slice pp PL cp,.bool dz] [.slice none 0 0,.slice none 0 0,.int .i64 0,.slice none 0 0,.bool false] 26 26);rw[hW1] at aU;have ed:=aa hW1;clear hW1;go_enter Tryz.func31,Tryz.ntmps31;go_upto_region 1 with fail;rw[ed.o];clear ed;go_wp2_with fail;go_loopw [10,1,2,11,12] (fun v10 v1 v2 _ _ wr=>age w F a b size R v10 v1 v2 wr) (fun v10 _ _ _ _ _=>(intOf v10+32).toNat)
 case atStart=>
  refine ⟨(bQ size).toNat,0,d,_,_,_,by simp,by simp,by simp,by omega,by omega,by have:=HFU.o;omega,?_,⟨_,_,_,_,_,_,_,_,_,rfl,rfl,rfl⟩,by rw[Kk.o.1,Kk.o.2];exact aU.1,aU.2.1,HD.keeps (fun x u hu=>?_),al6,aU.2.2⟩
  ·rw[← HR.o];simp
  ·obtain ⟨h1,h2⟩:=ar.1 hu
   have:=World.block_lt_of_cell? _ _ h2;exact ar.2 ⟨⟨h1,by omega,by omega⟩,ae aU.2.2 h2⟩
 case round=>
  obtain ⟨k,i,d2,vk,vc,vp,rfl,rfl,rfl,hi,zM,hf,hre,⟨pk,nk,ck,pc,nc,cc,pp,np,cp,rfl,rfl,rfl⟩,hx,hz,hd,tF,Fg⟩:=hrel;have Hv:=aa hre;have QF:=aa hx;have Ga:=aa hz;have Zi:=aa hd;have kg:=aa tF;have zL:=aa Fg;obtain ⟨x0,x1,x2,x3,x4⟩:=hx.five;obtain ⟨z0,z1,z2,z3,z4⟩:=hz.five;clear hre hx hz hd tF Fg;obtain ⟨lf,hlf⟩:∃l:Int,size-32*(i:Int)=l:=⟨_,rfl⟩
  rw[hlf] at zM hf Hv ⊢;obtain ⟨fz2,qi⟩:∃f,d2.ah=f:=⟨_,rfl⟩
  obtain ⟨dz2,F9⟩:∃f,d2.dead=f:=⟨_,rfl⟩
  have Cw:=aa (And.intro qi F9);rw[qi] at QF x2;rw[F9] at QF x4;have atv:lf≤256:=by omega
  have JY:=aa hlf;clear qi F9 hlf;by_cases tQ:0<lf
  case neg=>have hdp:decide (0<lf)=false:=decide_eq_false tQ;have HE:=aa (show R=(d2,0) by rw[Hv.o];exact LN (by omega));have g0:=Ga.free 0;have g1:=Ga.free 1;have g2:=Ga.free 2;have g3:=Ga.free 3;have g4:=Ga.free 4;go_wp2_with fail;have Xb:=aa (Ga.mZ (.slice pk nk ck) (.slice pc nc cc) (.int .i64 fz2) (.slice pp np cp) (.bool dz2));obtain ⟨q0,q1,q2,q3,q4⟩:=Xb.five;refine au (v:=.tuple #[.agg #[.slice pk nk ck,.slice pc nc cc,.int .i64 fz2,.slice pp np cp,.bool dz2],.int .i64 0]) ⟨.slice pk nk ck,.slice pc nc cc,.slice pp np cp,by rw[HE.o];unfold eE;rw[Cw.o.1,Cw.o.2],by rw[HE.o];exact (Zi.keeps (dm (b:=w.heap.size+1) (fun h=>h.2.2 rfl) _ _ _ _ _)).keeps (aW fun q h=>h.1),cT zL (by omega) _ _ _ _ _⟩ ?_;simp[results,Tryz.results31,go_sem,q0,q1,q2,q3,q4]
  case pos=>
   obtain ⟨k,rfl⟩:∃k',k=k'+1:=⟨k-1,by omega⟩
   have hdp:decide (0<lf)=true:=decide_eq_true tQ;have ha1:0≤a+(i:Int)∧a+(i:Int)≤200000:=by omega
   have hb1:0≤b+(i:Int)∧b+(i:Int)≤200000:=(by omega);have HRD:=aa (Lv d2 (a+i) _ _ _ wr (Zi.keeps dh));unfold eE at HRD;rw[Cw.o.1,Cw.o.2] at HRD;have TK:=aa (show R=(if ¬(fq d2 (a+i)).2=0 then (d2,(fq d2 (a+i)).2) else if ¬(cC d2 (b+i) (jm (fq d2 (a+i)).1 lf)).2=0 then cC d2 (b+i) (jm (fq d2 (a+i)).1 lf) else fU k (cC d2 (b+i) (jm (fq d2 (a+i)).1 lf)).1 (a+i+1) (b+i+1) (lf-32)) by
    rw[Hv.o,fU,if_neg (by omega)])
   have mW:=aa (fun h=>Br (d:=d2) (a:=a+i) h);obtain ⟨⟨tx,c⟩,hrd⟩:∃q,fq d2 (a+i)=q:=⟨_,rfl⟩
   rw[hrd] at HRD TK mW;simp only at HRD TK mW;clear hrd Hv;go_upto_region 5 with (go_at_call 81;(with_reducible refine HRD.o.mono ?_);rintro e w5 ⟨rfl,aR⟩;have bA:=aV zL aR;have fQ:=aa (QF.o.below aR);have si:=aa (Ga.o.below aR);have HD5:=aa (Zi.o.keeps (aC aR fun _ _ h=>h));clear aR x0 x1 x2 x3 x4 z0 z1 z2 z3 z4);obtain ⟨x0,x1,x2,x3,x4⟩:=fQ.five;obtain ⟨z0,z1,z2,z3,z4⟩:=si.five;by_cases hc:c=0
   case neg=>have hcb:(c != 0)=true:=(by simpa using hc);have HE:=aa (show R=(d2,c) by rw[TK.o,if_pos hc]);have g0:=si.free 0;have g1:=si.free 1;have g2:=si.free 2;have g3:=si.free 3;have g4:=si.free 4;go_wp2_with fail;have Xb:=aa (si.mZ (.slice pk nk ck) (.slice pc nc cc) (.int .i64 fz2) (.slice pp np cp) (.bool dz2));obtain ⟨q0,q1,q2,q3,q4⟩:=Xb.five;refine au (v:=.tuple #[.agg #[.slice pk nk ck,.slice pc nc cc,.int .i64 fz2,.slice pp np cp,.bool dz2],.int .i64 c]) ⟨.slice pk nk ck,.slice pc nc cc,.slice pp np cp,by rw[HE.o];unfold eE;rw[Cw.o.1,Cw.o.2],by rw[HE.o];exact (HD5.keeps (dm (b:=w.heap.size+1) (fun h=>h.2.2 rfl) _ _ _ _ _)).keeps (aW fun q h=>h.1),cT bA (by omega) _ _ _ _ _⟩ ?_;simp[results,Tryz.results31,go_sem,q0,q1,q2,q3,q4]
   case pos=>
    subst hc;have hcb:((0:Int) != 0)=false:=rfl;have htx:=mW.o rfl;have agh:(tx.size:Int)=32:=by omega
    have U1:=aa htx;have aaX:=aa (show R=(if ¬(cC d2 (b+i) (jm tx lf)).2=0 then cC d2 (b+i) (jm tx lf) else fU k (cC d2 (b+i) (jm tx lf)).1 (a+i+1) (b+i+1) (lf-32)) by
     rw[TK.o,if_neg (by simp)])
    have HPS:=aa (Bt htx tQ);clear TK mW;by_cases h32:lf<32
    case pos=>
     have aaY:decide (lf<32)=true:=decide_eq_true h32;obtain ⟨ln,rfl⟩:∃n:Nat,lf=n:=⟨lf.toNat,by omega⟩
     have HRP:=aa (fun W=>Pv (32-ln) (by omega) W);rw[show ((32-ln:Nat):Int)=32-(ln:Int) by omega] at HRP;have WH:=aa (show tx.extract 0 ln++tZ (32-ln)=jm tx (ln:Int) by
      unfold jm;rw[if_pos h32,Int.toNat_natCast,show (32-(ln:Int)).toNat=32-ln by omega];rfl)
     have hle:(ln:Int)≤(tx.size:Int):=(by omega);have hl0:(0:Int)≤(ln:Int):=by omega
     have al8:IntKind.i64.wrap (32-(ln:Int))=32-(ln:Int):=by rw[IntKind.wrap_i64];omega
     have hlw:wrap64 (32-(ln:Int))=32-(ln:Int):=by unfold wrap64;omega
     have aen:¬9223372036854775807<(tx.extract 0 ln).size+(tZ (32-ln)).size:=by rw[ByteArray.size_extract,rA];omega
     have agi:¬9223372036854775807<min ln tx.size+(tZ (32-ln)).size:=by rw[rA];omega
     have agj:¬9223372036854775807<min ln tx.size-0+(tZ (32-ln)).size:=by rw[rA];omega
     clear htx agh;go_upto_region 8 with fail;go_region_held3 (fun _=>True) (trivial) (first|((with_reducible refine (HRP.o _).mono ?_);rintro e w6 ⟨rfl,cW⟩;have cQ:=aa (ak bA.o (show Bw w5 w6 from ak (aH.drew) cW));have kB:=aa (fQ.o.drew.below cW);have Hz:=aa (si.o.drew.below cW);have HD6:=aa (HD5.o.keeps (aC (show Bw w5 w6 from ak (aH.drew) cW) fun _ _ h=>h));clear cW));obtain ⟨S,hS⟩:=aG (tx.extract 0 ln++tZ (32-ln));rw[hS] at WH ⊢;clear hS hle hl0 hlw al8 aen agi agj x0 x1 x2 x3 x4 z0 z1 z2 z3 z4 aaY;have Fh:=aa (show R=(if ¬(cC d2 (b+i) S).2=0 then cC d2 (b+i) S else fU k (cC d2 (b+i) S).1 (a+i+1) (b+i+1) ((ln:Int)-32)) by rw[WH.o];exact aaX);have VE:=aa (fun (h:d2.keep.length≤1000000)=>nG (b:=b+i) (s:=S) h);have Xc:S.size=32:=by rw[WH.o];exact HPS.o
     have AP:=aa (yB d2 (b+i) S _ _ _ w6 (HD6.keeps dh) kg (by rw[Xc];unfold maxLen;omega) (by unfold aP;omega));unfold TJ eE at AP;rw[Cw.o.1,Cw.o.2] at AP;obtain ⟨⟨d3,c3⟩,QN⟩:∃q,cC d2 (b+i) S=q:=⟨_,rfl⟩
     rw[QN] at AP Fh VE;simp only at AP Fh VE;obtain ⟨Xd,qi⟩:∃f,d3.ah=f:=⟨_,rfl⟩
     obtain ⟨Xe,F9⟩:∃f,d3.dead=f:=⟨_,rfl⟩
     rw[qi,F9] at AP;have Fi:=aa (And.intro qi F9);have HSW:=aa (show w.heap.size+1+1≤w6.heap.size from Hz.lt);clear QN qi F9 Xc;obtain ⟨x0,x1,x2,x3,x4⟩:=kB.five;go_upto_region 10 with (go_at_call 83;(with_reducible refine AP.o.mono ?_);rintro e w7 ⟨vk7,vc7,vp7,rfl,ho,dO⟩;obtain ⟨Px,Py,Pz,rfl⟩:=iM ho.kept;obtain ⟨PA,PB,PD,rfl⟩:=iM ho.cache;obtain ⟨PE,PF,PG,rfl⟩:=iM ho.keep;have pY:=aa ho;have fg:=aV cQ dO;have ly:=aa (kB.o.below dO);have E0:=aa (Hz.o.below dO);have y0:=ly.o.cell (j:=0) rfl;have y1:=ly.o.cell (j:=1) rfl;have y2:=ly.o.cell (j:=2) rfl;have y3:=ly.o.cell (j:=3) rfl;have y4:=ly.o.cell (j:=4) rfl;obtain ⟨f0,f1,f2,f3,f4⟩:=ly.o.ie;clear ho dO x0 x1 x2 x3 x4);obtain ⟨W8,lK⟩:=aG (((((w7.setCell ⟨w.heap.size,0,none⟩ (.slice Px Py Pz)).setCell ⟨w.heap.size,1,none⟩ (.slice PA PB PD)).setCell ⟨w.heap.size,2,none⟩ (.int .i64 Xd)).setCell ⟨w.heap.size,3,none⟩ (.slice PE PF PG)).setCell ⟨w.heap.size,4,none⟩ (.bool Xe));have wI:=aa (show aJ W8 w.heap.size [.slice Px Py Pz,.slice PA PB PD,.int .i64 Xd,.slice PE PF PG,.bool Xe] by rw[← lK];exact ly.mZ _ _ _ _ _);have tR:=aa (show aJ W8 (w.heap.size+1) [.slice none 0 0,.slice none 0 0,.int .i64 0,.slice none 0 0,.bool false] by rw[← lK];exact E0.za (by omega) _ _ _ _ _);have gQ:=aa (show Bw w W8 by rw[← lK];exact cT fg aT _ _ _ _ _);have V4:=aa (show bP (mask (fun q=>F q∧¬q=w.heap.size∧¬q=w.heap.size+1) W8) d3 (.slice Px Py Pz) (.slice PA PB PD) (.slice PE PF PG) by
      rw[← lK];exact (pY.at (F:=fun q=>F q∧¬q=w.heap.size∧¬q=w.heap.size+1) (fun q hq=>by have:=HSW.o;exact ⟨HF q (by omega),by omega,by omega⟩)).keeps (dm (b:=w.heap.size) (fun h=>h.2.1 rfl) _ _ _ _ _))
     rw[lK];clear lK y0 y1 y2 y3 y4 f0 f1 f2 f3 f4;obtain ⟨x0,x1,x2,x3,x4⟩:=wI.five;obtain ⟨z0,z1,z2,z3,z4⟩:=tR.five;by_cases hc3:c3=0
     case neg=>have aaZ:(c3 != 0)=true:=(by simpa using hc3);have HE:=aa (show R=(d3,c3) by rw[Fh.o,if_pos hc3]);have g0:=tR.free 0;have g1:=tR.free 1;have g2:=tR.free 2;have g3:=tR.free 3;have g4:=tR.free 4;go_wp2_with fail;have Xb:=aa (tR.mZ (.slice Px Py Pz) (.slice PA PB PD) (.int .i64 Xd) (.slice PE PF PG) (.bool Xe));obtain ⟨q0,q1,q2,q3,q4⟩:=Xb.five;refine au (v:=.tuple #[.agg #[.slice Px Py Pz,.slice PA PB PD,.int .i64 Xd,.slice PE PF PG,.bool Xe],.int .i64 c3]) ⟨.slice Px Py Pz,.slice PA PB PD,.slice PE PF PG,by rw[HE.o];unfold eE;rw[Fi.o.1,Fi.o.2],by rw[HE.o];exact (V4.keeps (dm (b:=w.heap.size+1) (fun h=>h.2.2 rfl) _ _ _ _ _)).keeps (aW fun q h=>h.1),cT gQ (by omega) _ _ _ _ _⟩ ?_;simp[results,Tryz.results31,go_sem,q0,q1,q2,q3,q4]
     case pos=>
      subst hc3;have aaZ:((0:Int) != 0)=false:=rfl;have HE:=aa (show R=fU k d3 (a+i+1) (b+i+1) ((ln:Int)-32) by rw[Fh.o,if_neg (by simp)]);go_wp2_with fail;go_roundw
      case rel=>exact ⟨k,i+1,d3,_,_,_,by rw[show size-32*((i+1:Nat):Int)=(ln:Int)-32 by have:=JY.o;omega],by rw[show a+((i+1:Nat):Int)=a+i+1 by omega],by rw[show b+((i+1:Nat):Int)=b+i+1 by omega],by have:=JY.o;omega,by have:=JY.o;omega,by have:=JY.o;omega,by rw[HE.o,show size-32*((i+1:Nat):Int)=(ln:Int)-32 by have:=JY.o;omega,show a+((i+1:Nat):Int)=a+i+1 by omega,show b+((i+1:Nat):Int)=b+i+1 by omega],⟨_,_,_,_,_,_,_,_,_,rfl,rfl,rfl⟩,by rw[Fi.o.1,Fi.o.2];exact wI,tR,V4,VE kg,gQ⟩
      case measure=>simp[intOf];omega
    case neg=>
     have aaY:decide (lf<32)=false:=decide_eq_false h32;have WH:=aa (show tx=jm tx lf by unfold jm;rw[if_neg h32]);go_upto_region 9 with fail;obtain ⟨S,hS⟩:=aG tx;rw[hS] at WH aaX HPS ⊢;clear x0 x1 x2 x3 x4 z0 z1 z2 z3 z4 aaY htx agh;have Fh:=aa (show R=(if ¬(cC d2 (b+i) S).2=0 then cC d2 (b+i) S else fU k (cC d2 (b+i) S).1 (a+i+1) (b+i+1) (lf-32)) by rw[WH.o];exact aaX);have VE:=aa (fun (h:d2.keep.length≤1000000)=>nG (b:=b+i) (s:=S) h);have Xc:S.size=32:=by rw[WH.o];exact HPS.o
     have AP:=aa (yB d2 (b+i) S _ _ _ w5 (HD5.keeps dh) kg (by rw[Xc];unfold maxLen;omega) (by unfold aP;omega));unfold TJ eE at AP;rw[Cw.o.1,Cw.o.2] at AP;obtain ⟨⟨d3,c3⟩,QN⟩:∃q,cC d2 (b+i) S=q:=⟨_,rfl⟩
     rw[QN] at AP Fh VE;simp only at AP Fh VE;obtain ⟨Xd,qi⟩:∃f,d3.ah=f:=⟨_,rfl⟩
     obtain ⟨Xe,F9⟩:∃f,d3.dead=f:=⟨_,rfl⟩
     rw[qi,F9] at AP;have Fi:=aa (And.intro qi F9);have HSW:=aa (show w.heap.size+1+1≤w5.heap.size from si.lt);clear QN qi F9 Xc;obtain ⟨x0,x1,x2,x3,x4⟩:=fQ.five;go_upto_region 10 with (go_at_call 83;(with_reducible refine AP.o.mono ?_);rintro e w7 ⟨vk7,vc7,vp7,rfl,ho,dO⟩;obtain ⟨Px,Py,Pz,rfl⟩:=iM ho.kept;obtain ⟨PA,PB,PD,rfl⟩:=iM ho.cache;obtain ⟨PE,PF,PG,rfl⟩:=iM ho.keep;have pY:=aa ho;have fg:=aV bA dO;have ly:=aa (fQ.o.below dO);have E0:=aa (si.o.below dO);have y0:=ly.o.cell (j:=0) rfl;have y1:=ly.o.cell (j:=1) rfl;have y2:=ly.o.cell (j:=2) rfl;have y3:=ly.o.cell (j:=3) rfl;have y4:=ly.o.cell (j:=4) rfl;obtain ⟨f0,f1,f2,f3,f4⟩:=ly.o.ie;clear ho dO x0 x1 x2 x3 x4);obtain ⟨W8,lK⟩:=aG (((((w7.setCell ⟨w.heap.size,0,none⟩ (.slice Px Py Pz)).setCell ⟨w.heap.size,1,none⟩ (.slice PA PB PD)).setCell ⟨w.heap.size,2,none⟩ (.int .i64 Xd)).setCell ⟨w.heap.size,3,none⟩ (.slice PE PF PG)).setCell ⟨w.heap.size,4,none⟩ (.bool Xe));have wI:=aa (show aJ W8 w.heap.size [.slice Px Py Pz,.slice PA PB PD,.int .i64 Xd,.slice PE PF PG,.bool Xe] by rw[← lK];exact ly.mZ _ _ _ _ _);have tR:=aa (show aJ W8 (w.heap.size+1) [.slice none 0 0,.slice none 0 0,.int .i64 0,.slice none 0 0,.bool false] by rw[← lK];exact E0.za (by omega) _ _ _ _ _);have gQ:=aa (show Bw w W8 by rw[← lK];exact cT fg aT _ _ _ _ _);have V4:=aa (show bP (mask (fun q=>F q∧¬q=w.heap.size∧¬q=w.heap.size+1) W8) d3 (.slice Px Py Pz) (.slice PA PB PD) (.slice PE PF PG) by
      rw[← lK];exact (pY.at (F:=fun q=>F q∧¬q=w.heap.size∧¬q=w.heap.size+1) (fun q hq=>by have:=HSW.o;exact ⟨HF q (by omega),by omega,by omega⟩)).keeps (dm (b:=w.heap.size) (fun h=>h.2.1 rfl) _ _ _ _ _))
     rw[lK];clear lK y0 y1 y2 y3 y4 f0 f1 f2 f3 f4;obtain ⟨x0,x1,x2,x3,x4⟩:=wI.five;obtain ⟨z0,z1,z2,z3,z4⟩:=tR.five;by_cases hc3:c3=0
     case neg=>have aaZ:(c3 != 0)=true:=(by simpa using hc3);have HE:=aa (show R=(d3,c3) by rw[Fh.o,if_pos hc3]);have g0:=tR.free 0;have g1:=tR.free 1;have g2:=tR.free 2;have g3:=tR.free 3;have g4:=tR.free 4;go_wp2_with fail;have Xb:=aa (tR.mZ (.slice Px Py Pz) (.slice PA PB PD) (.int .i64 Xd) (.slice PE PF PG) (.bool Xe));obtain ⟨q0,q1,q2,q3,q4⟩:=Xb.five;refine au (v:=.tuple #[.agg #[.slice Px Py Pz,.slice PA PB PD,.int .i64 Xd,.slice PE PF PG,.bool Xe],.int .i64 c3]) ⟨.slice Px Py Pz,.slice PA PB PD,.slice PE PF PG,by rw[HE.o];unfold eE;rw[Fi.o.1,Fi.o.2],by rw[HE.o];exact (V4.keeps (dm (b:=w.heap.size+1) (fun h=>h.2.2 rfl) _ _ _ _ _)).keeps (aW fun q h=>h.1),cT gQ (by omega) _ _ _ _ _⟩ ?_;simp[results,Tryz.results31,go_sem,q0,q1,q2,q3,q4]
     case pos=>
      subst hc3;have aaZ:((0:Int) != 0)=false:=rfl;have HE:=aa (show R=fU k d3 (a+i+1) (b+i+1) (lf-32) by rw[Fh.o,if_neg (by simp)]);go_wp2_with fail;go_roundw
      case rel=>exact ⟨k,i+1,d3,_,_,_,by rw[show size-32*((i+1:Nat):Int)=lf-32 by have:=JY.o;omega],by rw[show a+((i+1:Nat):Int)=a+i+1 by omega],by rw[show b+((i+1:Nat):Int)=b+i+1 by omega],by have:=JY.o;omega,by have:=JY.o;omega,by have:=JY.o;omega,by rw[HE.o,show size-32*((i+1:Nat):Int)=lf-32 by have:=JY.o;omega,show a+((i+1:Nat):Int)=a+i+1 by omega,show b+((i+1:Nat):Int)=b+i+1 by omega],⟨_,_,_,_,_,_,_,_,_,rfl,rfl,rfl⟩,by rw[Fi.o.1,Fi.o.2];exact wI,tR,V4,VE kg,gQ⟩
      case measure=>simp[intOf];omega
def Place (L:Nat) (y:aA):Prop:=0≤y.chunk∧y.chunk<L∧0≤y.pos∧y.pos≤15
def oK (c:List (List aj)):Prop:=∀t∈c,t.length≤1000
theorem Jd (a n:Int):∀l:List aj,(iK a n l).length=l.length+1
 |[]=>rfl
 |u::l=>by
  unfold iK
  split
  ·rfl
  ·rw[List.length_cons,Jd a n l];rfl
theorem PH {l t:List aj} {n a:Int} (h:gB l n=(t,a,true)):dD l=true∧1≤n∧n≤8∧t=iK a n l∧0≤a∧a+n≤16∧fH (fP l) n=a:=by
 unfold gB at h;by_cases h1:dD l=true∧1≤n∧n≤8
 ·rw[if_pos h1] at h
  by_cases h2:fH (fP l) n<0
  ·rw[if_pos h2] at h;simp at h
  ·rw[if_neg h2] at h
   simp only[Prod.mk.injEq,and_true] at h;obtain ⟨e1,e2⟩:=h;obtain ⟨_,_,h3⟩:=DD h1.1 e2 (by omega);exact ⟨h1.1,h1.2.1,h1.2.2,by rw[← e1,e2],by omega,h3,e2⟩
 ·rw[if_neg h1] at h;simp at h
theorem kD {c:List (List aj)} {n no:Int} (h:(bL c n no).2.2.2=true):cF c=true∧∃(i:Nat) (u:List aj),c[i]?=some u∧¬(i:Int)=no∧(bL c n no).2.1=i∧0≤(bL c n no).2.2.1∧(bL c n no).2.2.1+n≤16∧1≤n∧dD u=true∧fH (fP u) n=(bL c n no).2.2.1 ∧
 (bL c n no).1=c.set i (iK (bL c n no).2.2.1 n u):=by
 unfold bL at h ⊢;by_cases hm:cF c=true
 ·rw[if_pos hm] at h ⊢
  cases hg:iU n no 0 c with
  |none=>rw[hg] at h;simp at h
  |some q=>obtain ⟨i,t,a⟩:=q;obtain ⟨_,_,h3,u,h4,h5,h6,h7⟩:=Hq hg;obtain ⟨h8,h9,h10,h11,h12,h13,h14⟩:=PH (l:=u) (n:=n) (t:=t) (a:=a) (by rw[h6,h7,← h5]);exact ⟨hm,i,u,h4,h3,rfl,h12,h13,h9,h8,h14,by rw[h11]⟩
 ·rw[if_neg hm] at h;simp at h
theorem Fj {c:List (List aj)} {n no:Int} (h:(bL c n no).2.2.2=true):(bL c n no).1.length=c.length∧oK (bL c n no).1:=by
 obtain ⟨hm,i,u,h1,h2,h3,h4,h5,h6,h7,h8,h9⟩:=kD h;rw[h9];refine ⟨List.length_set ..,fun t ht=>?_⟩;unfold cF at hm;simp only[Bool.and_eq_true,List.all_eq_true] at hm;rcases List.mem_or_eq_of_mem_set ht with ht|ht
 ·have:=fY (hm.1 t ht);omega
 ·rw[ht,Jd];have:=fY h7;omega
theorem kN {n:Int}:∀ {l:List (aA×Int)} {c c':List (List aj)} {f f':Int→Option aA},bH n l (c,f)=some (c',f')→oK c→c'.length=c.length∧oK c'∧(∀k y,f' k=some y→f k=some y∨Place c.length y)∧∀x∈l,∃y,f' (cG x.1)=some y
 |[],c,c',f,f',h,hs=>by unfold bH at h;injection h with h;injection h with h1 h2;subst h1;subst h2;exact ⟨rfl,hs,fun k y h=>.inl h,fun x hx=>by simp at hx⟩
 |x::l,c,c',f,f',h,hs=>by
  unfold bH at h;by_cases e:(bL c (bQ x.1.size) n).2.2.2=true
  ·rw[if_pos e] at h
   obtain ⟨BX,hs1⟩:=Fj e;obtain ⟨_,i,u,h1,h2,h3,h4,h5,h6,_⟩:=kD e;have hi:=(List.getElem?_eq_some_iff.1 h1).1;obtain ⟨r1,r2,r3,r4⟩:=kN h hs1;refine ⟨r1.trans BX,r2,fun k y hk=>?_,fun z hz=>?_⟩
   ·rcases r3 k y hk with h|h
    ·unfold ru at h
     by_cases e2:k=cG x.1
     ·rw[if_pos e2] at h;injection h with h
      right;rw[← h];exact ⟨by rw[h3];exact Int.natCast_nonneg i,by rw[h3];exact Int.ofNat_lt.2 hi,h4,by show (bL c (bQ x.1.size) n).2.2.1≤15;omega⟩
     ·rw[if_neg e2] at h;exact .inl h
    ·right;rw[BX] at h;exact h
   ·rw[List.mem_cons] at hz
    rcases hz with rfl|hz
    ·by_cases hx:∃y,f' (cG z.1)=some y
     ·exact hx
     ·exfalso
      have:∀ {l:List (aA×Int)} {c c':List (List aj)} {f f':Int→Option aA} {k:Int} {y:aA},bH n l (c,f)=some (c',f')→f k=some y→∃y,f' k=some y:=by
       intro l
       induction l with
       |nil=>intro c c' f f' k y h hk;unfold bH at h;injection h with h;injection h with _ h2;exact ⟨y,by rw[← h2];exact hk⟩
       |cons a l ih=>
        intro c c' f f' k y h hk;unfold bH at h;by_cases e:(bL c (bQ a.1.size) n).2.2.2=true
        ·rw[if_pos e] at h
         by_cases e2:k=cG a.1
         ·exact ih h (y:=⟨(bL c (bQ a.1.size) n).2.1,(bL c (bQ a.1.size) n).2.2.1,a.1.size,a.1.packed⟩) (by show ru _ _ _ _=_;unfold ru;rw[if_pos e2])
         ·exact ih h (y:=y) (by show ru _ _ _ _=_;unfold ru;rw[if_neg e2];exact hk)
        ·rw[if_neg e] at h;cases h
      exact hx (this h (y:=⟨(bL c (bQ z.1.size) n).2.1,(bL c (bQ z.1.size) n).2.2.1,z.1.size,z.1.packed⟩) (by show ru _ _ _ _=_;unfold ru;rw[if_pos rfl]))
    ·exact r4 z hz
  ·rw[if_neg e] at h;cases h
theorem Fk {c:List (List aj)} {x:aA} {b:Int} (h:(fT c x b).2=true) (hs:oK c):(fT c x b).1.length=c.length∧oK (fT c x b).1:=by
 unfold fT at h ⊢;by_cases h1:cF c=true∧Hr c x=true
 ·rw[if_pos h1] at h ⊢
  by_cases h2:(jI ((c[x.chunk.toNat]?).getD []) x.pos b).2=true
  ·rw[if_pos h2]
   refine ⟨List.length_set ..,fun t ht=>?_⟩;rcases List.mem_or_eq_of_mem_set ht with ht|ht
   ·exact hs t ht
   ·rw[ht]
    have hc:((c[x.chunk.toNat]?).getD []).length≤1000:=by
     cases hg:c[x.chunk.toNat]? with
     |none=>simp
     |some u=>exact hs u (List.mem_of_getElem? hg)
    unfold jI
    split
    ·exact Nat.le_trans (N4 _ _ _) hc
    ·simp
  ·rw[if_neg h2] at h;cases h
 ·rw[if_neg h1] at h;cases h
theorem DR {c:List (List aj)} {i:Nat} {a n:Int} (hs:oK c):oK (c.set i (((c[i]?).getD []).map (cL a n))):=fun t ht=>by
 rcases List.mem_or_eq_of_mem_set ht with ht|ht
 ·exact hs t ht
 ·rw[ht,List.length_map]
  cases hg:c[i]? with
  |none=>simp
  |some u=>exact hs u (List.mem_of_getElem? hg)
theorem Fl {c:List (List aj)} {y x:aA} {often:Int} (hs:oK c):(jA c y x often).length=c.length∧oK (jA c y x often):=by
 unfold jA;have h1:=DR (i:=y.chunk.toNat) (a:=y.pos) (n:=often) hs;have h2:=DR (i:=x.chunk.toNat) (a:=x.pos) (n:=1) h1;simp only;by_cases e:(fT ((c.set y.chunk.toNat (((c[y.chunk.toNat]?).getD []).map (cL y.pos often))).set x.chunk.toNat ((((c.set y.chunk.toNat (((c[y.chunk.toNat]?).getD []).map (cL y.pos often)))[x.chunk.toNat]?).getD []).map (cL x.pos 1))) x (-1)).2=true
 ·rw[if_pos e]
  obtain ⟨h3,h4⟩:=Fk e h2;exact ⟨h3.trans (by rw[List.length_set,List.length_set]),h4⟩
 ·rw[if_neg e]
  exact ⟨by rw[List.length_set,List.length_set],h2⟩
theorem Cx (f:Int→Option aA) (l:List (aA×Int)) (x:aA×Int) (c:List (List aj)):cJ f (l++[x]) c=jA (cJ f l c) ((f (cG x.1)).getD aA.zero) x.1 x.2:=by unfold cJ;rw[List.foldl_append];rfl
theorem rB (f:Int→Option aA):∀(l:List (aA×Int)) {c:List (List aj)},oK c→(cJ f l c).length=c.length∧oK (cJ f l c)
 |[],c,h=>⟨rfl,h⟩
 |x::l,c,h=>by have h1:=Fl (y:=(f (cG x.1)).getD aA.zero) (x:=x.1) (often:=x.2) h;obtain ⟨h2,h3⟩:=rB f l h1.2;exact ⟨h2.trans h1.1,h3⟩
theorem rC:∀(k:Nat) {d:aL} {a b left:Int},d.keep.length≤1000000→(fU k d a b left).1.keep.length≤1000000
 |0,d,a,b,left,h=>h
 |k+1,d,a,b,left,h=>by
  unfold fU
  split
  ·exact h
  ·split
   ·exact h
   ·split
    ·exact nG h
    ·exact rC k (nG h)
theorem sZ (met:Int) (f:Int→Option aA):∀(l:List (aA×Int)) {d:aL},d.keep.length≤1000000→(bl met f l d).1.keep.length≤1000000
 |[],d,h=>h
 |x::l,d,h=>by
  unfold bl
  split
  ·exact rC _ h
  ·exact sZ met f l (rC _ h)
theorem vA {n:Int}:∀ {l:List (aA×Int)} {s:List (List aj)×(Int→Option aA)} (m:List (aA×Int)),bH n l s=none→bH n (l++m) s=none
 |[],s,m,h=>by unfold bH at h;cases h
 |a::l,s,m,h=>by
  unfold bH at h;rw[List.cons_append,bH];by_cases e:(bL s.1 (bQ a.1.size) n).2.2.2=true
  ·rw[if_pos e] at h ⊢;exact vA m h
  ·rw[if_neg e]
theorem th {met:Int} {f:Int→Option aA}:∀ {l:List (aA×Int)} {d:aL} (m:List (aA×Int)),¬(bl met f l d).2=0→bl met f (l++m) d=bl met f l d
 |[],d,m,h=>by unfold bl at h;exact absurd rfl h
 |a::l,d,m,h=>by
  unfold bl at h;rw[List.cons_append,bl,bl];by_cases e:¬(lr met d a.1 ((f (cG a.1)).getD aA.zero)).2=0
  ·rw[if_pos e,if_pos e]
  ·rw[if_neg e] at h ⊢;rw[if_neg e];exact th m h
theorem Cy {met:Int} {f:Int→Option aA} {l:List (aA×Int)} {x:aA×Int} {d d':aL} (h:bl met f l d=(d',0)):bl met f (l++[x]) d=lr met d' x.1 ((f (cG x.1)).getD aA.zero):=by
 rw[Fe h];unfold bl;by_cases e:¬(lr met d' x.1 ((f (cG x.1)).getD aA.zero)).2=0
 ·rw[if_pos e]
 ·rw[if_neg e]
  unfold bl;have:(lr met d' x.1 ((f (cG x.1)).getD aA.zero)).2=0:=by omega
  rw[← this]
theorem jN {l:List az} {n:Int} {x:aA×Int} (h:x∈fI l n):cE x.1=true∧x.1.chunk=n:=by unfold fI at h;obtain ⟨p,hp,rfl⟩:=List.mem_map.1 h;obtain ⟨_,hp⟩:=List.mem_filter.1 hp;rw[Bool.and_eq_true,decide_eq_true_eq] at hp;unfold sD at hp;rw[Bool.and_eq_true] at hp;exact ⟨hp.1.2,hp.2⟩
theorem BB {t:ag} {low:Int} (h:bG t low=true):t.keys.length≤4∧t.vals.length≤4∧t.kids.length≤4∧∀k∈t.kids,bG k 2=true:=by
 cases t with
 |mk ks vs kids=>
  simp only[bG,Bool.and_eq_true,decide_eq_true_eq] at h;simp only[ag.keys,ag.vals,ag.kids];obtain ⟨⟨h1,h2⟩,h3⟩:=h;by_cases e:kids.length=0
  ·rw[if_pos e] at h3
   have:=of_decide_eq_true h3;exact ⟨h2,by omega,by omega,fun k hk=>by rw[List.eq_nil_of_length_eq_zero e] at hk;simp at hk⟩
  ·rw[if_neg e,Bool.and_eq_true,decide_eq_true_eq] at h3
   obtain ⟨⟨h4,h5,h6⟩,h7⟩:=h3;refine ⟨h2,by omega,by omega,fun k hk=>?_⟩;obtain ⟨j,hj⟩:=List.mem_iff_getElem?.1 hk;exact ((eV _ _).1 h7 j k hj).1
theorem Je {w:World} {v:Value} {l:List Int} (h:fD w v l):∃p c,v=.slice p l.length c∧(∀x∈l,aP x)∧iN w p l.length 1 (bB l):=by
 obtain ⟨p,c,h1,h2,h3,h4⟩:=h;refine ⟨p,c,h1,fun x hx=>?_,by unfold bB;simp,fun hp=>?_,fun u hu=>?_,fun ad had j u hj=>?_⟩
 ·obtain ⟨i,hi⟩:=List.mem_iff_getElem?.1 hx
  exact (h4 i x hi).1
 ·cases l with
  |nil=>rfl
  |cons x l=>obtain ⟨_,g,o,e,_⟩:=h4 0 x rfl;rw[hp] at e;cases e
 ·unfold bB at hu
  obtain ⟨x,_,rfl⟩:=List.mem_map.1 hu;rfl
 ·unfold bB at hj
  rw[List.getElem?_map] at hj;cases hx:l[j]? with
  |none=>rw[hx] at hj;cases hj
  |some x=>rw[hx] at hj;cases hj;obtain ⟨_,g,o,e,hc⟩:=h4 j x hx;rw[had] at e;injection e with e;subst e;rw[nI];exact hc
def abc (w:World) (t:ag) (e:Ending) (w':World):Prop:=∃x y z,e=.returned (.agg #[x,y,z])∧gj w' (fun q=>w.heap.size≤q∧q<w'.heap.size) t x y z∧Bw w w'
theorem pS {W:World} {b:Nat} {a0 a1 a2:Value} (h:aJ W b [a0,a1,a2]):W.cell? ⟨b,0,none⟩=some a0∧W.cell? ⟨b,1,none⟩=some a1:=⟨h.cell rfl,h.cell rfl⟩
theorem mP {W:World} {b:Nat} {a0 a1 a2:Value} (h:aJ W b [a0,a1,a2]):W.cell? ⟨b,0,none⟩=some a0∧W.cell? ⟨b,1,none⟩=some a1∧W.cell? ⟨b,2,none⟩=some a2:=⟨h.cell rfl,h.cell rfl,h.cell rfl⟩
theorem Jf (t:ag):∀(a b c:Value) (low:Int) (w:World),bw w t a b c→bG t low=true→Calls Tryz.prog 71 #[.agg #[a,b,c]] w (abc w t):=by
 induction t using ag.ind with
 |h ks vs kids ih=>
  intro a b c low w hn hs;obtain ⟨l1,l2,l3,l4⟩:=BB hs;have zD:=aa (fun t ht a b c W hn=>ih t ht a b c 2 W hn (l4 t ht));clear ih l4 hs;obtain ⟨ha,hb,pc,cc,rfl,c1,c2,hk⟩:=bD.1 hn;obtain ⟨pa,ca,rfl,ba,sa⟩:=Je ha;obtain ⟨pb,cb,rfl,bb,sb⟩:=Je hb;simp only[ag.keys,ag.vals,ag.kids] at l1 l2 l3 c1 c2 hk ba bb sa sb ⊢;have Pl:=aa (fun (W:World) (h:Bw w W)=>yF pa ks.length ca _ W (sa.stays h) (by omega));have FQ:=aa (fun (W:World) (h:Bw w W)=>yF pb vs.length cb _ W (sb.stays h) (by omega));have HK:=aa hk;have yP:=aa ba;have jr:=aa bb;clear hk ha hb hn sa sb ba bb;obtain ⟨nk,hK⟩:=aG ks.length;obtain ⟨nv,hM⟩:=aG vs.length;obtain ⟨N,hN⟩:=aG kids.length;have vN:=aa hK;have qA:=aa hM;have lz:=aa hN;rw[hK] at Pl ⊢;rw[hM] at FQ ⊢;rw[hN] at c1 l3 ⊢;have hlc:(N:Int)≤9223372036854775807:=by omega
  clear hK hM hN l1 l2 c1 c2;obtain ⟨W1,hW1⟩:=aG ((w.alloc (.cells #[.slice pa nk ca,.slice pb nv cb,.slice pc N cc] 73)).alloc (.cells #[.slice none 0 0,.slice none 0 0,.slice none 0 0] 73));have aU:=aa (zb w [.slice pa nk ca,.slice pb nv cb,.slice pc N cc] [.slice none 0 0,.slice none 0 0,.slice none 0 0] 73 73);rw[hW1] at aU;have ed:=aa hW1;clear hW1;go_enter Tryz.func71,Tryz.ntmps71;go_upto_region 1 with fail;rw[ed.o];clear ed;go_cut [3] from 6 to 12 (fun v3 wx=>∃b3 x y,v3=.pointer (some ⟨b3,0,none⟩)∧BA w (.slice pa nk ca) (.slice pb nv cb) (.slice pc N cc) ks vs kids 0 b3 x y (.slice none 0 0) wx)
  case first=>
   have sO:=aa aU.1.drew;have HRX:=aa aU.2.1.drew;have uI:=aa aU.2.2.drew;have Xc:w.heap.size+2≤W1.drew.heap.size:=HRX.lt;have VY:=aa Xc;have tB:=aa (Pl.o _ uI);refine wp_region_held_drew (S:=fun w'=>w'.cell? ⟨w.heap.size,0,none⟩=some (.slice pa nk ca)∧w'.cell? ⟨w.heap.size,1,none⟩=some (.slice pb nv cb)) (by kernel_rfl) (pS sO) (fun hHeld=>?_);refine cD 0 6 (.pointer (some ⟨w.heap.size,0,none⟩)) rfl rfl hHeld ?_;simp only[aF];refine cD 1 7 (.slice pa nk ca) rfl rfl hHeld ?_;simp only[aF];refine cD 3 9 (.pointer (some ⟨w.heap.size,1,none⟩)) rfl rfl hHeld ?_;simp only[aF];refine cD 4 10 (.slice pb nv cb) rfl rfl hHeld ?_;simp only[aF];clear Xc;refine wpAnyH_ready (rs:=[2,7]) (by kernel_rfl) (by simp) ?_;refine AllReadyH.cons rfl (fun K hK=>?_) (AllReadyH.cons rfl (fun K hK=>?_) AllReadyH.nil)
   ·go_simp
    refine tB.o.mono ?_;rintro e w2 ⟨v2,rfl,ho,hb⟩;obtain ⟨p2,c2,rfl⟩:=eF ho;have bU:=aV uI hb;have dY:=aa (sO.o.below hb);have js:=aa (HRX.o.below hb);have nM:=aa (bC VY.o ho);clear ho hb;refine hK.out _ _ (pS dY.o) (fun hHeld=>?_);clear hK K;refine wpAnyH_ready (rs:=[5,7]) (by kernel_rfl) (by simp) ?_;refine AllReadyH.cons rfl (fun K hK=>?_) (AllReadyH.cons rfl (fun K hK=>?_) AllReadyH.nil)
    ·go_simp
     refine (FQ.o _ bU.o).mono ?_;rintro e w3 ⟨v3,rfl,ho,hb⟩;obtain ⟨p3,c3,rfl⟩:=eF ho;have dG:=aV bU hb;have kK:=aa (dY.o.below hb);have uz:=aa (js.o.below hb);have HAP:=aa (rE nM.o ho aT);have qD:=aa (bC (Nat.le_trans js.o.lt aT) ho);have yn:=aa (aM nM.o hb);clear ho hb;refine hK.out _ _ (pS kK.o) (fun hHeld=>?_);clear hK K;refine cD 6 12 (.agg #[.slice p2 nk c2,.slice p3 nv c3,.slice none 0 0]) rfl rfl hHeld ?_;simp only[aF];refine kn 7 rfl (fun K hK=>?_);go_simp;refine hK.out _ _ (pS (kK.o.alloc _)) (fun hHeld=>?_);clear hK K;have Ib:=aa (cN.new w3 (.slice none 0 0) (.slice none 0 0) (.slice none 0 0));have HE:=aa (PR (kids:=kids) dG.o kK.o uz.o (by rw[vN.o];exact yn.o) (by rw[qA.o];exact qD.o) yP.o jr.o HAP.o);refine kn 8 rfl (fun K hK=>?_);go_simp;refine hK.out _ _ (pS HE.o.arg) (fun hHeld=>?_);clear hK K hHeld;refine wpAnyH_done (by kernel_rfl) ?_ _;go_wp2_with fail;go_meet;exact ⟨_,_,_,rfl,HE.o⟩
    ·go_simp
     have WZ:=aa (cN.new w2 (.slice none 0 0) (.slice none 0 0) (.slice none 0 0));have Cq:=aa (dY.o.alloc (.cells #[.slice none 0 0,.slice none 0 0,.slice none 0 0] 73));have amc:=aa (js.o.alloc (.cells #[.slice none 0 0,.slice none 0 0,.slice none 0 0] 73));have AQ:=aa (bU.o.alloc bU.o.size (.cells #[.slice none 0 0,.slice none 0 0,.slice none 0 0] 73));refine hK.out _ _ (pS Cq.o) (fun hHeld=>?_);clear hK K;refine kn 5 rfl (fun K hK=>?_);go_simp;refine (FQ.o _ AQ.o).mono ?_;rintro e w3 ⟨v3,rfl,ho,hb⟩;obtain ⟨p3,c3,rfl⟩:=eF ho;have dG:=aa (ak AQ.o hb);have kK:=aa (Cq.o.below hb);have uz:=aa (amc.o.below hb);have HAP:=aa (rE nM.o ho (by simp));have qD:=aa (bC (Nat.le_trans js.o.lt (by simp)) ho);have yn:=aa (aM (nM.o.alloc _) hb);have Ib:=aa (WZ.o.below hb);clear ho hb;refine hK.out _ _ (pS kK.o) (fun hHeld=>?_);clear hK K;refine cD 6 12 (.agg #[.slice p2 nk c2,.slice p3 nv c3,.slice none 0 0]) rfl rfl hHeld ?_;simp only[aF];obtain ⟨n0,n1,n2⟩:=Ib.o.cells;have f0:=Ib.o.frozen 0;have f1:=Ib.o.frozen 1;have f2:=Ib.o.frozen 2;have HE:=aa (D4 (kids:=kids) dG.o kK.o uz.o Ib.o js.o.lt (by rw[vN.o];exact yn.o) (by rw[qA.o];exact qD.o) yP.o jr.o HAP.o);refine kn 8 rfl (fun K hK=>?_);go_simp;refine hK.out _ _ (pS HE.o.arg) (fun hHeld=>?_);clear hK K n0 n1 n2 f0 f1 f2 hHeld;refine wpAnyH_done (by kernel_rfl) ?_ _;go_wp2_with fail;go_meet;exact ⟨_,_,_,rfl,HE.o⟩
   ·go_simp
    have HN1:=aa (show cN _ W1.heap.size _ _ _ from cN.new W1.drew (.slice none 0 0) (.slice none 0 0) (.slice none 0 0));have agw:=aa (sO.o.alloc (.cells #[.slice none 0 0,.slice none 0 0,.slice none 0 0] 73));have amd:=aa (HRX.o.alloc (.cells #[.slice none 0 0,.slice none 0 0,.slice none 0 0] 73));have agx:=aa (uI.o.alloc uI.o.size (.cells #[.slice none 0 0,.slice none 0 0,.slice none 0 0] 73));refine hK.out _ _ (pS agw.o) (fun hHeld=>?_);clear hK K;refine kn 2 rfl (fun K hK=>?_);go_simp;refine (Pl.o _ agx.o).mono ?_;rintro e w2 ⟨v2,rfl,ho,hb⟩;obtain ⟨p2,c2,rfl⟩:=eF ho;have bU:=aa (ak agx.o hb);have dY:=aa (agw.o.below hb);have js:=aa (amd.o.below hb);have WZ:=aa (HN1.o.below hb);have nM:=aa (bC (Nat.le_trans VY.o (by simp)) ho);clear ho hb;refine hK.out _ _ (pS dY.o) (fun hHeld=>?_);clear hK K;refine kn 5 rfl (fun K hK=>?_);go_simp;refine (FQ.o _ bU.o).mono ?_;rintro e w3 ⟨v3,rfl,ho,hb⟩;obtain ⟨p3,c3,rfl⟩:=eF ho;have dG:=aV bU hb;have kK:=aa (dY.o.below hb);have uz:=aa (js.o.below hb);have HAP:=aa (rE nM.o ho aT);have qD:=aa (bC (Nat.le_trans js.o.lt aT) ho);have yn:=aa (aM nM.o hb);have Ib:=aa (WZ.o.below hb);clear ho hb;refine hK.out _ _ (pS kK.o) (fun hHeld=>?_);clear hK K;refine cD 6 12 (.agg #[.slice p2 nk c2,.slice p3 nv c3,.slice none 0 0]) rfl rfl hHeld ?_;simp only[aF];obtain ⟨n0,n1,n2⟩:=Ib.o.cells;have f0:=Ib.o.frozen 0;have f1:=Ib.o.frozen 1;have f2:=Ib.o.frozen 2;have HE:=aa (D4 (kids:=kids) dG.o kK.o uz.o Ib.o VY.o (by rw[vN.o];exact yn.o) (by rw[qA.o];exact qD.o) yP.o jr.o HAP.o);refine kn 8 rfl (fun K hK=>?_);go_simp;refine hK.out _ _ (pS HE.o.arg) (fun hHeld=>?_);clear hK K n0 n1 n2 f0 f1 f2 hHeld;refine wpAnyH_done (by kernel_rfl) ?_ _;go_wp2_with fail;go_meet;exact ⟨_,_,_,rfl,HE.o⟩
  case rest=>
   obtain ⟨b3,x,y,rfl,hr⟩:=hcut;obtain ⟨px,mx,cx,py,my,cy,_,_,_,rfl,rfl,_⟩:=hr.tree.slices;have HR:=aa hr;have a2:=hr.arg.cell (j:=2) rfl;clear hr;go_wp2_with fail;clear a2;go_loopw [16,5] (fun i _ wr=>∃(k:Nat) (z:Value),k≤N∧i=.int .i64 k∧BA w (.slice pa nk ca) (.slice pb nv cb) (.slice pc N cc) ks vs kids k b3 (.slice px mx cx) (.slice py my cy) z wr) (fun i _ _=>N-(intOf i).toNat)
   case atStart=>exact ⟨0,_,dQ,rfl,HR⟩
   case round=>
    obtain ⟨k,z,hk,rfl,Gp⟩:=hrel;have uR:=aa Gp;clear Gp;by_cases hlt:k<N
    case neg=>
     obtain rfl:k=N:=by omega
     obtain ⟨_,_,_,_,_,_,pz,mz,cz,_,_,rfl⟩:=uR.tree.slices;obtain ⟨n0,n1,n2⟩:=uR.box.cells;have r0:=uR.res.cell (j:=0) rfl;have r1:=uR.res.cell (j:=1) rfl;have r2:=uR.res.cell (j:=2) rfl;obtain ⟨f0,f1,f2⟩:=uR.res.abd;go_wp2_with fail;have HZ:=aa (((uR.res.set 0 (.slice px mx cx)).set 1 (.slice py my cy)).set 2 (.slice pz mz cz));simp only[List.set_cons_zero,List.set_cons_succ] at HZ;have g0:=HZ.cell (j:=0) rfl;have g1:=HZ.cell (j:=1) rfl;have g2:=HZ.cell (j:=2) rfl;have hsz:=(pD wr (w.heap.size+1) (.slice px mx cx) (.slice py my cy) (.slice pz mz cz)).size;have ht:=uR.tree;rw[List.take_of_length_le (by rw[lz.o];exact aT)] at ht;refine au (v:=.agg #[.slice px mx cx,.slice py my cy,.slice pz mz cz]) ⟨_,_,_,rfl,(ht.kept (pD wr (w.heap.size+1) _ _ _) (fun q hq e=>by have h1:=hq.1;have:=Option.some.inj e;omega)).mono (fun q hq=>by have h1:=hq.1;have h2:=hq.2.1;exact ⟨by omega,by omega⟩),ue uR.below (by omega) _ _ _⟩ ?_;simp[results,Tryz.results71,go_sem,g0,g1,g2]
    case pos=>
     have fO:(k:Int)<(N:Int):=(by omega);obtain ⟨t,ht⟩:=fy (l:=kids) (k:=k) (by rw[lz.o];exact hlt);obtain ⟨g,o,tx,ty,tz,rfl,k0,k1,k2,hn⟩:=HK.o k t ht;obtain ⟨qa,na,ka,qb,nb,kb,qc,nc,kc,rfl,rfl,rfl⟩:=bc hn;have q0:=ae uR.below k0;have q1:=ae uR.below k1;have q2:=ae uR.below k2;have HN:=aa (hn.keep (af uR.below));have HT:=aa ht;clear hn k0 k1 k2 ht;go_upto_region 5 with fail;have jQ:=aa (aJ.new wr [.slice qa na ka,.slice qb nb kb,.slice qc nc kc] 73);have gz:=aa (show Bw wr (wr.alloc (.cells #[.slice qa na ka,.slice qb nb kb,.slice qc nc kc] 73)) from aq);have Q0:=aa (show (wr.alloc (.cells #[.slice qa na ka,.slice qb nb kb,.slice qc nc kc] 73)).heap.size=wr.heap.size+1 from World.size_alloc _ _);obtain ⟨W4,qu⟩:=aG (wr.alloc (.cells #[.slice qa na ka,.slice qb nb kb,.slice qc nc kc] 73));rw[show (wr.alloc (.cells [.slice qa na ka,.slice qb nb kb,.slice qc nc kc].toArray 73))=W4 from qu] at jQ;rw[qu] at gz Q0 ⊢;have Wv:=aa jQ.drew;have fL:=aa gz.drew;have yR:=aa (HN.keep (af fL));have HZD:=aa (uR.box.below fL);clear qu q0 q1 q2 jQ gz;refine wp_region_held_drew (S:=fun w'=>w'.cell? ⟨wr.heap.size,0,none⟩=some (.slice qa na ka)∧w'.cell? ⟨wr.heap.size,1,none⟩=some (.slice qb nb kb)∧w'.cell? ⟨wr.heap.size,2,none⟩=some (.slice qc nc kc)) (by kernel_rfl) (mP Wv) (fun hHeld=>?_);refine cD 0 20 (.pointer (some ⟨b3,2,none⟩)) rfl rfl hHeld ?_;simp only[aF];refine cD 2 22 (.agg #[.slice qa na ka,.slice qb nb kb,.slice qc nc kc]) rfl rfl hHeld ?_;simp only[aF];refine wpAnyH_ready (rs:=[1,3]) (by kernel_rfl) (by simp) ?_;refine AllReadyH.cons rfl (fun K hK=>?_) (AllReadyH.cons rfl (fun K hK=>?_) AllReadyH.nil)
     ·have z2:=HZD.cells.2.2
      go_simp;refine hK.out _ _ (mP Wv) (fun hHeld=>?_);clear hK K z2;refine kn 3 rfl (fun K hK=>?_);go_simp;refine (zD t (List.mem_of_getElem? HT) _ _ _ _ yR).mono ?_;rintro e w5 ⟨x5,y5,z5,rfl,ho,hb⟩;obtain ⟨ra,ma,ja,rb,mb,jb,rc,mc,jc,rfl,rfl,rfl⟩:=ho.slices;have aR:=ak fL hb;obtain ⟨g9,c9,w9,hrun,fN,Jg,LP⟩:=uR.push aR ho (fun q hq=>⟨by have h1:=hq.1;have h2:=Q0.o;show wr.heap.size≤q;have:W4.drew.heap.size=W4.heap.size:=rfl;omega,hq.2⟩) HT (by omega);have fQ:=aa (Wv.below hb);have si:=aa (HZD.below hb);have Ol:=aa (show aJ w9 wr.heap.size [.slice qa na ka,.slice qb nb kb,.slice qc nc kc] by obtain ⟨T,h⟩:=fQ.o;exact ⟨T,(LP _ aT fQ.lt).1.trans h⟩);have HXE:=aa (show aJ (w9.setCell ⟨b3,2,none⟩ (.slice (some ⟨g9,0,none⟩) (k+1) c9)) wr.heap.size [.slice qa na ka,.slice qb nb kb,.slice qc nc kc] by obtain ⟨T,h⟩:=fQ.o;exact ⟨T,(LP _ aT fQ.lt).2.trans h⟩);have dM:=aa hrun;have sO:=aa fN;have tU:=aa Jg;clear ho hb aR hrun fN Jg LP;refine hK.out _ _ (mP fQ) (fun hHeld=>?_);clear hK K;refine kn 4 rfl (fun K hK=>?_);go_simp;refine hK.out _ _ (mP (fQ.alloc _)) (fun hHeld=>?_);clear hK K;refine kn 5 rfl (fun K hK=>?_);refine bE rfl _ _ _ rfl rfl rfl dM ?_;refine hK.out _ _ (mP Ol) (fun hHeld=>?_);clear hK K;refine cD 6 26 (.pointer (some ⟨b3,2,none⟩)) rfl rfl hHeld ?_;simp only[Act.put,List.setIfInBounds_toArray];obtain ⟨_,_,d2⟩:=sO.cells;have f2:=sO.frozen 2;refine kn 7 rfl (fun K hK=>?_);go_simp;refine hK.out _ _ (mP HXE) (fun hHeld=>?_);clear hK K hHeld d2 f2;refine wpAnyH_done (by kernel_rfl) ?_ _;go_wp2_with fail;go_roundw
      case rel=>exact ⟨k+1,_,by omega,by go_num,tU.o⟩
      case measure=>simp[intOf];omega
     ·go_simp
      refine (zD.o t (List.mem_of_getElem? HT.o) _ _ _ _ yR.o).mono ?_;rintro e w5 ⟨x5,y5,z5,rfl,ho,hb⟩;obtain ⟨ra,ma,ja,rb,mb,jb,rc,mc,jc,rfl,rfl,rfl⟩:=ho.slices;have aR:=ak fL.o hb;obtain ⟨g9,c9,w9,hrun,fN,Jg,LP⟩:=uR.o.push aR ho (fun q hq=>⟨by have h1:=hq.1;have h2:=Q0.o;show wr.heap.size≤q;have:W4.drew.heap.size=W4.heap.size:=rfl;omega,hq.2⟩) HT.o (by omega);have fQ:=aa (Wv.o.below hb);have si:=aa (HZD.o.below hb);have Ol:=aa (show aJ w9 wr.heap.size [.slice qa na ka,.slice qb nb kb,.slice qc nc kc] by obtain ⟨T,h⟩:=fQ.o;exact ⟨T,(LP _ aT fQ.o.lt).1.trans h⟩);have HXE:=aa (show aJ (w9.setCell ⟨b3,2,none⟩ (.slice (some ⟨g9,0,none⟩) (k+1) c9)) wr.heap.size [.slice qa na ka,.slice qb nb kb,.slice qc nc kc] by obtain ⟨T,h⟩:=fQ.o;exact ⟨T,(LP _ aT fQ.o.lt).2.trans h⟩);have dM:=aa hrun;have sO:=aa fN;have tU:=aa Jg;clear ho hb aR hrun fN Jg LP;refine hK.out _ _ (mP fQ.o) (fun hHeld=>?_);clear hK K;refine wpAnyH_ready (rs:=[1,4]) (by kernel_rfl) (by simp) ?_;refine AllReadyH.cons rfl (fun K hK=>?_) (AllReadyH.cons rfl (fun K hK=>?_) AllReadyH.nil)
      ·have z2:=si.o.cells.2.2
       go_simp;refine hK.out _ _ (mP fQ.o) (fun hHeld=>?_);clear hK K z2;refine kn 4 rfl (fun K hK=>?_);go_simp;refine hK.out _ _ (mP (fQ.o.alloc _)) (fun hHeld=>?_);clear hK K;refine kn 5 rfl (fun K hK=>?_);refine bE rfl _ _ _ rfl rfl rfl dM.o ?_;refine hK.out _ _ (mP Ol.o) (fun hHeld=>?_);clear hK K;refine cD 6 26 (.pointer (some ⟨b3,2,none⟩)) rfl rfl hHeld ?_;simp only[Act.put,List.setIfInBounds_toArray];obtain ⟨_,_,d2⟩:=sO.o.cells;have f2:=sO.o.frozen 2;refine kn 7 rfl (fun K hK=>?_);go_simp;refine hK.out _ _ (mP HXE.o) (fun hHeld=>?_);clear hK K hHeld d2 f2;refine wpAnyH_done (by kernel_rfl) ?_ _;go_wp2_with fail;go_roundw
       case rel=>exact ⟨k+1,_,by omega,by go_num,tU.o⟩
       case measure=>simp[intOf];omega
      ·go_simp
       refine hK.out _ _ (mP (fQ.o.alloc _)) (fun hHeld=>?_);clear hK K;refine kn 1 rfl (fun K hK=>?_);have z2:=(si.o.below (aH.alloc aT (.cells #[.slice ra ma ja,.slice rb mb jb,.slice rc mc jc] 73))).cells.2.2;go_simp;refine hK.out _ _ (mP (fQ.o.alloc _)) (fun hHeld=>?_);clear hK K z2;refine kn 5 rfl (fun K hK=>?_);refine bE rfl _ _ _ rfl rfl rfl dM.o ?_;refine hK.out _ _ (mP Ol.o) (fun hHeld=>?_);clear hK K;refine cD 6 26 (.pointer (some ⟨b3,2,none⟩)) rfl rfl hHeld ?_;simp only[Act.put,List.setIfInBounds_toArray];obtain ⟨_,_,d2⟩:=sO.o.cells;have f2:=sO.o.frozen 2;refine kn 7 rfl (fun K hK=>?_);go_simp;refine hK.out _ _ (mP HXE.o) (fun hHeld=>?_);clear hK K hHeld d2 f2;refine wpAnyH_done (by kernel_rfl) ?_ _;go_wp2_with fail;go_roundw
       case rel=>exact ⟨k+1,_,by omega,by go_num,tU.o⟩
       case measure=>simp[intOf];omega
def lU (c:List (List aj)):Bool:=c.all (fun t=>decide (t.length≤40))&&decide (c.length≤40)
theorem Fv (x:List (List aj)) (v1:Value) (w:World) (h1:dI w v1 x):Calls Tryz.prog 23 #[v1] w fun e w'=>e=.returned (.bool (lU x))∧Bw w w':=by
 obtain ⟨p,cp,rfl,a1,a2,ha⟩:=h1;have HA:=aa ha;obtain ⟨N,hN⟩:=aG x.length;rw[hN] at a1;rw[hN];have hlc:=fK (n:=N) a2;have HN:=aa hN;clear ha hN a1 a2;go_enter Tryz.func23,Tryz.ntmps23;go_wp2_with fail;go_loopw [3] (fun i wr=>∃k:Nat,k≤N∧i=.int .i64 k∧(∀(j:Nat) t,j<k→x[j]?=some t→t.length≤40)∧Bw w wr) (fun i _=>N-(intOf i).toNat)
 case atStart=>exact ⟨0,dQ,rfl,fun j _ hj=>by omega,aH⟩
 case round=>
  obtain ⟨k,hk,rfl,hall,hb⟩:=hrel;have ez:=aa hall;have HB:=aa hb;clear hall hb;by_cases hlt:k<N
  case neg=>
   obtain rfl:k=N:=by omega
   have HF:=aa (show lU x=decide (k≤40) by
    unfold lU;rw[show x.all (fun t=>decide (t.length≤40))=true from List.all_eq_true.2 fun t ht=>by
     obtain ⟨j,hj⟩:=List.getElem?_of_mem ht;exact decide_eq_true (ez.o j t (by have:=(List.getElem?_eq_some_iff.1 hj).1;rw[HN.o] at this;exact this) hj),HN.o,Bool.true_and])
   by_cases h40:k≤40
   ·have d0:decide ((k:Int)≤40)=true:=decide_eq_true (by omega)
    have d1:decide (k≤40)=true:=decide_eq_true h40;have HD:=aa d1;go_wp2_with fail;go_ret;exact ⟨aO (by rw[HF.o,HD.o]),HB⟩
   ·have d0:decide ((k:Int)≤40)=false:=decide_eq_false (by omega)
    have d1:decide (k≤40)=false:=decide_eq_false h40;have HD:=aa d1;go_wp2_with fail;go_ret;exact ⟨aO (by rw[HF.o,HD.o]),HB⟩
  have fO:(k:Int)<(N:Int):=by omega
  obtain ⟨s,hs⟩:=fy (l:=x) (k:=k) (by rw[HN.o];omega);obtain ⟨g,o,u1,rfl,x1,x2⟩:=HA.o k _ hs;obtain ⟨pu,cu,rfl,b1,b2,_⟩:=id x2;have r0:=ae HB x1;have HS:=aa hs;obtain ⟨M,hM⟩:=aG s.length;rw[hM] at r0 b1;have HM:=aa hM;have Y8:=fK (n:=M) b2;clear hs x1 x2 hM b1 b2;by_cases h40:M≤40
  ·have d0:decide (40<(M:Int))=false:=decide_eq_false (by omega)
   have d1:decide (40<M)=false:=decide_eq_false (by omega);have H40:=aa h40;clear h40;go_wp2_with fail;go_roundw
   case rel=>
    refine ⟨k+1,by omega,by go_num,fun j t hj ht=>?_,HB.o⟩;by_cases e:j=k
    ·subst e;rw[HS.o] at ht;cases ht;rw[HM.o];exact H40.o
    ·exact ez j t (by omega) ht
   case measure=>simp[intOf];omega
  ·have d0:decide (40<(M:Int))=true:=decide_eq_true (by omega)
   have d1:decide (40<M)=true:=decide_eq_true (by omega);have HF:=aa (show lU x=false by
    unfold lU;rw[show x.all (fun t=>decide (t.length≤40))=false from by rw[← Bool.not_eq_true,List.all_eq_true];intro h;have:=of_decide_eq_true (h s (List.mem_of_getElem? HS));rw[HM.o] at this;exact h40 this];rfl)
   clear h40;go_wp2_with fail;go_ret;exact ⟨aO HF.symm,HB⟩
def dF (p:bX):Bool:=uh p.disk&&(kJ p.av&&(lU p.tabs&&decide (p.av.length≤8)))
theorem CB {p:bX}:dF p=true↔uh p.disk=true∧kJ p.av=true∧lU p.tabs=true∧p.av.length≤8:=by unfold dF;simp only[Bool.and_eq_true,decide_eq_true_eq]
theorem pH (p:bX) (v:PV) (w:World) (h:bh w p v):Calls Tryz.prog 8 #[dZ p v] w fun e w'=>e=.returned (.bool (dF p))∧Bw w w':=by
 have HK:=aa (fun (W:World) (hb:Bw w W)=>Jo p.disk v.k v.c v.p W (h.disk.below hb));have HV:=aa (fun (W:World) (hb:Bw w W)=>Ey p.av v.v W (h.av.keep (af hb)));have HT:=aa (fun (W:World) (hb:Bw w W)=>Fv p.tabs v.t W (h.tabs.keep (af hb)));obtain ⟨bK,hbK⟩:∃b,uh p.disk=b:=⟨_,rfl⟩
 obtain ⟨bV,hbV⟩:∃b,kJ p.av=b:=⟨_,rfl⟩
 obtain ⟨bT,hbT⟩:∃b,lU p.tabs=b:=⟨_,rfl⟩
 rw[hbK] at HK;rw[hbV] at HV;rw[hbT] at HT;obtain ⟨r,hr⟩:=aG (dF p);rw[hr];unfold dF at hr;rw[hbK,hbV,hbT] at hr;have HR:=aa hr;obtain ⟨pv,cv,ev,hcv,hcm,_⟩:=h.av;obtain ⟨pk,nk,ck,pc,nc,cc,pp,np,cp,pv',nv,cv',pt,nt,ct,rfl⟩:=h.sl;simp only at ev;injection ev with e1 e2 e3;subst e1;subst e3;unfold eE at HK;unfold dZ;simp only at HK HV HT ⊢;clear h hbK hbV hbT hr;obtain ⟨⟨kept,cache,ah,keep,dead⟩,met,gen,aD,av,tabs⟩:=p;simp only at HK HR e2 hcv ⊢;rw[← e2] at HR;have hlv:(nv:Int)≤9223372036854775807:=by unfold maxLen at hcm;omega
 clear e2 hcv hcm;obtain ⟨W1,hW1⟩:=aG (w.alloc (.cells #[.slice pk nk ck,.slice pc nc cc,.int .i64 ah,.slice pp np cp,.bool dead,.int .i64 met,.int .i64 gen,.int .i64 aD,.slice pv' nv cv',.slice pt nt ct] 30));have aU:=aa (show aJ W1 w.heap.size [.slice pk nk ck,.slice pc nc cc,.int .i64 ah,.slice pp np cp,.bool dead,.int .i64 met,.int .i64 gen,.int .i64 aD,.slice pv' nv cv',.slice pt nt ct] by rw[← hW1];exact aJ.new w _ _);have aZ:=aa (show Bw w W1 by rw[← hW1];exact aq);have ed:=aa hW1;clear hW1;go_enter Tryz.func8,Tryz.ntmps8;go_upto_region 1 with fail;rw[ed.o];clear ed;obtain ⟨a0,a1,a2,a3,a4,a5,a6,a7,a8,a9⟩:=aU.ten;cases bK with
 |false=>have HF:=aa (show r=false by rw[← HR.o];rfl);go_wp2_with (go_at_call 21;(with_reducible refine (HK.o _ aZ.o).mono ?_);rintro e w2 ⟨rfl,hb⟩;have bU:=aV aZ hb;clear hb);go_ret;exact ⟨aO HF.symm,bU⟩
 |true=>
 cases bV with
 |false=>have HF:=aa (show r=false by rw[← HR.o];rfl);go_wp2_with (first|(go_at_call 21;(with_reducible refine (HK.o _ aZ.o).mono ?_);rintro e w2 ⟨rfl,hb⟩;have bU:=aV aZ hb;have dY:=aa (aU.o.below hb);clear hb;have b8:=dY.o.cell (j:=8) rfl)|(go_at_call 22;(with_reducible refine (HV.o _ bU.o).mono ?_);rintro e w3 ⟨rfl,hb⟩;have dG:=aV bU hb;clear hb));go_ret;exact ⟨aO HF.symm,dG⟩
 |true=>
 cases bT with
 |false=>have HF:=aa (show r=false by rw[← HR.o];rfl);go_wp2_with (first|(go_at_call 21;(with_reducible refine (HK.o _ aZ.o).mono ?_);rintro e w2 ⟨rfl,hb⟩;have bU:=aV aZ hb;have dY:=aa (aU.o.below hb);clear hb;have b8:=dY.o.cell (j:=8) rfl)|(go_at_call 22;(with_reducible refine (HV.o _ bU.o).mono ?_);rintro e w3 ⟨rfl,hb⟩;have dG:=aV bU hb;have kK:=aa (dY.o.below hb);clear hb;have b9:=kK.o.cell (j:=9) rfl)|(go_at_call 23;(with_reducible refine (HT.o _ dG.o).mono ?_);rintro e w4 ⟨rfl,hb⟩;have gz:=aV dG hb;clear hb));go_ret;exact ⟨aO HF.symm,gz⟩
 |true=>
 by_cases h8:nv≤8
 case pos=>have HF:=aa (show r=true by rw[← HR.o,decide_eq_true h8];rfl);have d0:decide ((nv:Int)≤8)=true:=decide_eq_true (by omega);have d1:decide (nv≤8)=true:=decide_eq_true h8;clear h8;go_wp2_with (first|(go_at_call 21;(with_reducible refine (HK.o _ aZ.o).mono ?_);rintro e w2 ⟨rfl,hb⟩;have bU:=aV aZ hb;have dY:=aa (aU.o.below hb);clear hb;have b8:=dY.o.cell (j:=8) rfl)|(go_at_call 22;(with_reducible refine (HV.o _ bU.o).mono ?_);rintro e w3 ⟨rfl,hb⟩;have dG:=aV bU hb;have kK:=aa (dY.o.below hb);clear hb;have b9:=kK.o.cell (j:=9) rfl)|(go_at_call 23;(with_reducible refine (HT.o _ dG.o).mono ?_);rintro e w4 ⟨rfl,hb⟩;have gz:=aV dG hb;have jQ:=aa (kK.o.below hb);clear hb;have b10:=jQ.o.cell (j:=8) rfl));go_ret;exact ⟨aO HF.symm,gz⟩
 case neg=>have HF:=aa (show r=false by rw[← HR.o,decide_eq_false h8];rfl);have d0:decide ((nv:Int)≤8)=false:=decide_eq_false (by omega);have d1:decide (nv≤8)=false:=decide_eq_false h8;clear h8;go_wp2_with (first|(go_at_call 21;(with_reducible refine (HK.o _ aZ.o).mono ?_);rintro e w2 ⟨rfl,hb⟩;have bU:=aV aZ hb;have dY:=aa (aU.o.below hb);clear hb;have b8:=dY.o.cell (j:=8) rfl)|(go_at_call 22;(with_reducible refine (HV.o _ bU.o).mono ?_);rintro e w3 ⟨rfl,hb⟩;have dG:=aV bU hb;have kK:=aa (dY.o.below hb);clear hb;have b9:=kK.o.cell (j:=9) rfl)|(go_at_call 23;(with_reducible refine (HT.o _ dG.o).mono ?_);rintro e w4 ⟨rfl,hb⟩;have gz:=aV dG hb;have jQ:=aa (kK.o.below hb);clear hb;have b10:=jQ.o.cell (j:=8) rfl));go_ret;exact ⟨aO HF.symm,gz⟩
def mQ (p q:bX):Bool:=rH p.disk q.disk&&(p.met==q.met&&(p.gen==q.gen&&(p.aD==q.aD&&(jU p.av q.av&&lh p.tabs q.tabs))))
theorem yG (p q:bX) (v v':PV) (w:World) (h:bh w p v) (h':bh w q v') (ls:bO p.av) (ls':bO q.av):Calls Tryz.prog 12 #[dZ p v,dZ q v'] w fun e w'=>e=.returned (.bool (mQ p q))∧Bw w w':=by
 have HK:=aa (fun (W:World) (hb:Bw w W)=>L5 p.disk q.disk v.k v.c v.p v'.k v'.c v'.p W (h.disk.below hb) (h'.disk.below hb));have HV:=aa (fun (W:World) (hb:Bw w W)=>Gr p.av q.av v.v v'.v W (h.av.keep (af hb)) (h'.av.keep (af hb)) ls ls');have HT:=aa (fun (W:World) (hb:Bw w W)=>GQ p.tabs q.tabs v.t v'.t W (h.tabs.keep (af hb)) (h'.tabs.keep (af hb)));obtain ⟨bK,hbK⟩:∃b,rH p.disk q.disk=b:=⟨_,rfl⟩
 obtain ⟨bV,hbV⟩:∃b,jU p.av q.av=b:=⟨_,rfl⟩
 obtain ⟨bT,hbT⟩:∃b,lh p.tabs q.tabs=b:=⟨_,rfl⟩
 rw[hbK] at HK;rw[hbV] at HV;rw[hbT] at HT;obtain ⟨r,hr⟩:=aG (mQ p q);rw[hr];unfold mQ at hr;rw[hbK,hbV,hbT] at hr;have HR:=aa hr;obtain ⟨pk,nk,ck,pc,nc,cc,pp,np,cp,pv,nv,cv,pt,nt,ct,rfl⟩:=h.sl;obtain ⟨Hj,nk',MK,Uu,KX,Uv,pp',np',cp',pv',nv',cv',pt',nt',ct',rfl⟩:=h'.sl;unfold eE at HK;unfold dZ;simp only at HK HV HT ⊢;clear h h' hbK hbV hbT hr ls ls';obtain ⟨⟨kept,cache,ah,keep,dead⟩,met,gen,aD,av,tabs⟩:=p;obtain ⟨⟨kept',amv,YQ,aql,YR⟩,TZ,T6,Jp,aqm,aqn⟩:=q;simp only at HK HR ⊢;obtain ⟨W1,hW1⟩:=aG ((w.alloc (.cells #[.slice pk nk ck,.slice pc nc cc,.int .i64 ah,.slice pp np cp,.bool dead,.int .i64 met,.int .i64 gen,.int .i64 aD,.slice pv nv cv,.slice pt nt ct] 30)).alloc (.cells #[.slice Hj nk' MK,.slice Uu KX Uv,.int .i64 YQ,.slice pp' np' cp',.bool YR,.int .i64 TZ,.int .i64 T6,.int .i64 Jp,.slice pv' nv' cv',.slice pt' nt' ct'] 30));have aU:=aa (zb w [.slice pk nk ck,.slice pc nc cc,.int .i64 ah,.slice pp np cp,.bool dead,.int .i64 met,.int .i64 gen,.int .i64 aD,.slice pv nv cv,.slice pt nt ct] [.slice Hj nk' MK,.slice Uu KX Uv,.int .i64 YQ,.slice pp' np' cp',.bool YR,.int .i64 TZ,.int .i64 T6,.int .i64 Jp,.slice pv' nv' cv',.slice pt' nt' ct'] 30 30);rw[hW1] at aU;have ed:=aa hW1;clear hW1;go_enter Tryz.func12,Tryz.ntmps12;go_upto_region 1 with fail;rw[ed.o];clear ed;obtain ⟨a0,a1,a2,a3,a4,a5,a6,a7,a8,a9⟩:=aU.1.ten;obtain ⟨b0,b1,b2,b3,b4,b5,b6,b7,b8,b9⟩:=aU.2.1.ten;cases bK with
 |false=>have HF:=aa (show r=false by rw[← HR.o];rfl);go_wp2_with (first|(go_at_call 46;(with_reducible refine (HK.o _ aU.o.2.2).mono ?_);rintro e w2 ⟨rfl,hb⟩;have bU:=aa (ak aU.o.2.2 hb);have dY:=aa (aU.o.1.below hb);have ow:=aa (aU.o.2.1.below hb);clear hb;have c5:=dY.o.cell (j:=5) rfl;have c6:=dY.o.cell (j:=6) rfl;have c7:=dY.o.cell (j:=7) rfl;have c8:=dY.o.cell (j:=8) rfl;have d5:=ow.o.cell (j:=5) rfl;have d6:=ow.o.cell (j:=6) rfl;have d7:=ow.o.cell (j:=7) rfl;have d8:=ow.o.cell (j:=8) rfl));go_ret;exact ⟨aO HF.symm,bU⟩
 |true=>
 by_cases e_met:met=TZ
 case neg=>
  have HF:=aa (show r=false by rw[← HR.o,show (met==TZ)=false by simpa using e_met];(first|rfl|simp));have dd:(met==TZ)=false:=by simpa using e_met
  clear e_met;go_wp2_with (first|(go_at_call 46;(with_reducible refine (HK.o _ aU.o.2.2).mono ?_);rintro e w2 ⟨rfl,hb⟩;have bU:=aa (ak aU.o.2.2 hb);have dY:=aa (aU.o.1.below hb);have ow:=aa (aU.o.2.1.below hb);clear hb;have c5:=dY.o.cell (j:=5) rfl;have c6:=dY.o.cell (j:=6) rfl;have c7:=dY.o.cell (j:=7) rfl;have c8:=dY.o.cell (j:=8) rfl;have d5:=ow.o.cell (j:=5) rfl;have d6:=ow.o.cell (j:=6) rfl;have d7:=ow.o.cell (j:=7) rfl;have d8:=ow.o.cell (j:=8) rfl));go_ret;exact ⟨aO HF.symm,bU⟩
 case pos=>
 subst e_met;have aqo:(met==met)=true:=by simp
 by_cases e_gen:gen=T6
 case neg=>
  have HF:=aa (show r=false by rw[← HR.o,show (gen==T6)=false by simpa using e_gen];(first|rfl|simp));have dd:(gen==T6)=false:=by simpa using e_gen
  clear e_gen;go_wp2_with (first|(go_at_call 46;(with_reducible refine (HK.o _ aU.o.2.2).mono ?_);rintro e w2 ⟨rfl,hb⟩;have bU:=aa (ak aU.o.2.2 hb);have dY:=aa (aU.o.1.below hb);have ow:=aa (aU.o.2.1.below hb);clear hb;have c5:=dY.o.cell (j:=5) rfl;have c6:=dY.o.cell (j:=6) rfl;have c7:=dY.o.cell (j:=7) rfl;have c8:=dY.o.cell (j:=8) rfl;have d5:=ow.o.cell (j:=5) rfl;have d6:=ow.o.cell (j:=6) rfl;have d7:=ow.o.cell (j:=7) rfl;have d8:=ow.o.cell (j:=8) rfl));go_ret;exact ⟨aO HF.symm,bU⟩
 case pos=>
 subst e_gen;have aqp:(gen==gen)=true:=by simp
 by_cases e_area:aD=Jp
 case neg=>
  have HF:=aa (show r=false by rw[← HR.o,show (aD==Jp)=false by simpa using e_area];(first|rfl|simp));have dd:(aD==Jp)=false:=by simpa using e_area
  clear e_area;go_wp2_with (first|(go_at_call 46;(with_reducible refine (HK.o _ aU.o.2.2).mono ?_);rintro e w2 ⟨rfl,hb⟩;have bU:=aa (ak aU.o.2.2 hb);have dY:=aa (aU.o.1.below hb);have ow:=aa (aU.o.2.1.below hb);clear hb;have c5:=dY.o.cell (j:=5) rfl;have c6:=dY.o.cell (j:=6) rfl;have c7:=dY.o.cell (j:=7) rfl;have c8:=dY.o.cell (j:=8) rfl;have d5:=ow.o.cell (j:=5) rfl;have d6:=ow.o.cell (j:=6) rfl;have d7:=ow.o.cell (j:=7) rfl;have d8:=ow.o.cell (j:=8) rfl));go_ret;exact ⟨aO HF.symm,bU⟩
 case pos=>
 subst e_area;have amw:(aD==aD)=true:=by simp
 have js:=aa (show (bV&&bT)=r by have h:=HR.o;simpa using h);cases bV with
 |false=>have HF:=aa (show r=false by rw[← js.o];rfl);go_wp2_with (first|(go_at_call 46;(with_reducible refine (HK.o _ aU.o.2.2).mono ?_);rintro e w2 ⟨rfl,hb⟩;have bU:=aa (ak aU.o.2.2 hb);have dY:=aa (aU.o.1.below hb);have ow:=aa (aU.o.2.1.below hb);clear hb;have c5:=dY.o.cell (j:=5) rfl;have c6:=dY.o.cell (j:=6) rfl;have c7:=dY.o.cell (j:=7) rfl;have c8:=dY.o.cell (j:=8) rfl;have d5:=ow.o.cell (j:=5) rfl;have d6:=ow.o.cell (j:=6) rfl;have d7:=ow.o.cell (j:=7) rfl;have d8:=ow.o.cell (j:=8) rfl)|(go_at_call 47;(with_reducible refine (HV.o _ bU.o).mono ?_);rintro e w3 ⟨rfl,hb⟩;have dG:=aV bU hb;have kK:=aa (dY.o.below hb);have HY3:=aa (ow.o.below hb);clear hb;have e9:=kK.o.cell (j:=9) rfl;have f9:=HY3.o.cell (j:=9) rfl));go_ret;exact ⟨aO HF.symm,dG⟩
 |true=>
 cases bT with
 |false=>have HF:=aa (show r=false by rw[← js.o];rfl);go_wp2_with (first|(go_at_call 46;(with_reducible refine (HK.o _ aU.o.2.2).mono ?_);rintro e w2 ⟨rfl,hb⟩;have bU:=aa (ak aU.o.2.2 hb);have dY:=aa (aU.o.1.below hb);have ow:=aa (aU.o.2.1.below hb);clear hb;have c5:=dY.o.cell (j:=5) rfl;have c6:=dY.o.cell (j:=6) rfl;have c7:=dY.o.cell (j:=7) rfl;have c8:=dY.o.cell (j:=8) rfl;have d5:=ow.o.cell (j:=5) rfl;have d6:=ow.o.cell (j:=6) rfl;have d7:=ow.o.cell (j:=7) rfl;have d8:=ow.o.cell (j:=8) rfl)|(go_at_call 47;(with_reducible refine (HV.o _ bU.o).mono ?_);rintro e w3 ⟨rfl,hb⟩;have dG:=aV bU hb;have kK:=aa (dY.o.below hb);have HY3:=aa (ow.o.below hb);clear hb;have e9:=kK.o.cell (j:=9) rfl;have f9:=HY3.o.cell (j:=9) rfl)|(go_at_call 48;(with_reducible refine (HT.o _ dG.o).mono ?_);rintro e w4 ⟨rfl,hb⟩;have gz:=aV dG hb;clear hb));go_ret;exact ⟨aO HF.symm,gz⟩
 |true=>have HF:=aa (show r=true by rw[← js.o];rfl);go_wp2_with (first|(go_at_call 46;(with_reducible refine (HK.o _ aU.o.2.2).mono ?_);rintro e w2 ⟨rfl,hb⟩;have bU:=aa (ak aU.o.2.2 hb);have dY:=aa (aU.o.1.below hb);have ow:=aa (aU.o.2.1.below hb);clear hb;have c5:=dY.o.cell (j:=5) rfl;have c6:=dY.o.cell (j:=6) rfl;have c7:=dY.o.cell (j:=7) rfl;have c8:=dY.o.cell (j:=8) rfl;have d5:=ow.o.cell (j:=5) rfl;have d6:=ow.o.cell (j:=6) rfl;have d7:=ow.o.cell (j:=7) rfl;have d8:=ow.o.cell (j:=8) rfl)|(go_at_call 47;(with_reducible refine (HV.o _ bU.o).mono ?_);rintro e w3 ⟨rfl,hb⟩;have dG:=aV bU hb;have kK:=aa (dY.o.below hb);have HY3:=aa (ow.o.below hb);clear hb;have e9:=kK.o.cell (j:=9) rfl;have f9:=HY3.o.cell (j:=9) rfl)|(go_at_call 48;(with_reducible refine (HT.o _ dG.o).mono ?_);rintro e w4 ⟨rfl,hb⟩;have gz:=aV dG hb;clear hb));go_ret;exact ⟨aO HF.symm,gz⟩
end Go.Proofs.YtbigkioechkngaaGreat
