/- The proof, part 21. -/
import Derived.Test.YtbigkioechkngaaGreatR18
import Derived.Test.YtbigkioechkngaaGreatR19
import Derived.ProofKit
import Derived.Carry
import Derived.Test.YtbigkioechkngaaGreatRows
import Derived.OpenShut
import Derived.Deep.DeepHandedRow
set_option maxRecDepth 100000
set_option maxHeartbeats 8000000
namespace Go.Proofs.YtbigkioechkngaaGreat
open Go.RowKit Go.Proofs.Tryz
variable {f:Int→Option aB}{ks vs:List Int}{kids:List ag}{l:List dx}{B b ca cb cc k n na nb nc:Nat}{F:Nat→Prop}{pa pb pc:Option Addr}{a a0 a1 a2 c u v vv x y:Value}{W w w':World}{d:aO}{t:ag}
def tP (k:Nat):ByteArray:=⟨(List.replicate k (0:UInt8)).toArray⟩
theorem IJ (l:UInt8):∀k,Lib.repeatL [l] k=List.replicate k l
 |0=>rfl
 |k+1=>by rw[show Lib.repeatL [l] (k+1)=[l]++Lib.repeatL [l] k from rfl,IJ l k];rfl
theorem O5 (c:Nat) (h:c≤32) (w:World):Calls prog 82 #[.string ⟨#[0]⟩,.int .i64 c] w fun e w'=>e=.returned (.string (tP c))∧Bw w w':=by
 refine (strings_Repeat ⟨#[0]⟩ c w (by omega) ?_).mono ?_
 ·show 1*c≤_;omega
 ·rintro e w' ⟨rfl,hb⟩
  exact ⟨by rw[show (⟨#[0]⟩:ByteArray).data.toList=[0] from rfl,IJ];rfl,hb⟩
theorem qQ (k:Nat):(tP k).size=k:=by show (List.replicate k (0:UInt8)).toArray.size=k;simp
theorem Lc {a:Int} (h:(gw d a).2=0):(gw d a).1.size=32:=by
 unfold gw at h ⊢;by_cases hm:fZ d=false
 ·rw[if_pos hm] at h;exact absurd h (by decide)
 rw[if_neg hm] at h ⊢;by_cases hd:d.dead=true
 ·rw[if_pos hd] at h;exact absurd h (by decide)
 rw[if_neg hd] at h ⊢;by_cases hp:a<0∨(d.kept.length:Int)≤a
 ·rw[if_pos hp] at h;exact absurd h (by decide)
 rw[if_neg hp];have zi:fZ d=true:=by cases h:fZ d <;> simp_all
 obtain ⟨_,h6,h7⟩:=(gu d).1 zi;refine Eu ?_ fun p hp=>(h7 p hp).2.2;have hlt:a.toNat<d.kept.length:=by omega
 rw[List.getElem?_eq_getElem hlt,Option.getD_some];exact h6 _ (List.getElem_mem hlt)
theorem nh {b:Int} {s:ByteArray} (h:d.keep.length≤1000000):(cF d b s).1.keep.length≤1000000:=by
 unfold cF;by_cases h1:fZ d=false
 ·rw[if_pos h1];exact Nat.zero_le _
 rw[if_neg h1];by_cases h2:d.dead=true
 ·rw[if_pos h2];exact h
 rw[if_neg h2]
 split
 ·exact h
 ·by_cases h4:d.ah=0
  ·rw[if_pos h4]
   show (yz _ _).keep.length≤_;unfold yz
   split <;> exact Nat.zero_le _
  ·rw[if_neg h4]
   split <;> exact h
theorem Ld {s:ByteArray} {left:Int} (h:s.size=32) (h0:0<left):(kQ s left).size=32:=by
 unfold kQ;by_cases e:left<32
 ·rw[if_pos e,ByteArray.size_append,ByteArray.size_extract]
  show _+(List.replicate (32-left).toNat (0:UInt8)).toArray.size=32;simp;omega
 ·rw[if_neg e];exact h
theorem Le {a b left:Int} (h:left≤0):gM k d a b left=(d,0):=by
 cases k with
 |zero=>rfl
 |succ k=>unfold gM;rw[if_pos h]
def afw (w:World) (F:Nat→Prop) (a b size:Int) (R:aO×Int) (v10 v1 v2:Value) (wr:World):Prop:=
 ∃(k i:Nat) (d:aO) (vk vc vp:Value),v10=.int .i64 (size-32*i)∧v1=.int .i64 (a+i)∧v2=.int .i64 (b+i)∧i≤8 ∧ -32<size-32*i∧size-32*i≤32*k∧R=gM k d (a+i) (b+i) (size-32*i) ∧
  (∃pk nk ck pc nc cc pp np cp,vk=.slice pk nk ck∧vc=.slice pc nc cc∧vp=.slice pp np cp)∧aK wr w.heap.size [vk,vc,.int .i64 d.ah,vp,.bool d.dead]∧aK wr (w.heap.size+1) [.slice none 0 0,.slice none 0 0,.int .i64 0,.slice none 0 0,.bool false] ∧
  bN (mask (fun q=>F q∧¬q=w.heap.size∧¬q=w.heap.size+1) wr) d vk vc vp∧d.keep.length≤1000000∧Bw w wr
def X8 (F:Nat→Prop) (w:World) (r:aO×Int) (e:Ending) (w':World):Prop:=∃vk vc vp,e=.returned (.tuple #[ew r.1 vk vc vp,.int .i64 r.2])∧bN (mask F w') r.1 vk vc vp∧Bw w w'
theorem O6 (d:aO) (a b size:Int) (vk vc vp:Value) (w:World) (F:Nat→Prop) (hF:∀q,w.heap.size≤q→F q) (h:bN (mask F w) d vk vc vp) (vh:d.keep.length≤1000000) (ha:0≤a∧a≤100000) (hb:0≤b∧b≤100000) (hs:1≤size∧size≤256) :
 Calls prog 31 #[ew d vk vc vp,.int .i64 a,.int .i64 b,.int .i64 size] w (X8 F w (gM (cg size).toNat d a b size)):=by
 have HF:=aa hF;obtain ⟨R,hR⟩:=aG (gM (cg size).toNat d a b size);rw[hR];have X9:size≤32*((cg size).toNat:Int):=by unfold cg;rw[if_neg (by omega)];omega
 have HR:=aa hR;have HFU:=aa X9;obtain ⟨pk,ck,rfl,_,_⟩:=h.kept.slice;obtain ⟨pc,cc,rfl,_,_⟩:=h.cache.slice;obtain ⟨pp,cp,rfl,_,_⟩:=h.keep.slice;obtain ⟨KL,Z3⟩:∃n,d.kept.length=n:=⟨_,rfl⟩
 obtain ⟨CL,Z4⟩:∃n,d.cache.length=n:=⟨_,rfl⟩
 obtain ⟨PL,Um⟩:∃n,d.keep.length=n:=⟨_,rfl⟩
 rw[Z3,Z4,Um] at h ⊢;unfold ew;have HD:=aa h;have akQ:=aa vh;clear h hR X9 Z3 Z4 Um vh hF;obtain ⟨fz,rB⟩:∃f,d.ah=f:=⟨_,rfl⟩
 obtain ⟨dz,FB⟩:∃f,d.dead=f:=⟨_,rfl⟩
 have JU:=aa (And.intro rB FB);rw[rB,FB];clear rB FB;obtain ⟨W1,hW1⟩:=aG ((w.alloc (.cells #[.slice pk KL ck,.slice pc CL cc,.int .i64 fz,.slice pp PL cp,.bool dz] 26)).alloc (.cells #[.slice none 0 0,.slice none 0 0,.int .i64 0,.slice none 0 0,.bool false] 26));have aU:=aa (yH w [.slice pk KL ck,.slice pc CL cc,.int .i64 fz,.slice pp PL cp,.bool dz] [.slice none 0 0,.slice none 0 0,.int .i64 0,.slice none 0 0,.bool false] 26 26);rw[hW1] at aU;have ee:=aa hW1;clear hW1;go_enter func31,ntmps31;go_upto_region 1 with fail;rw[ee.o];clear ee;go_wp2_with fail;go_loopw [10,1,2,11,12] (fun v10 v1 v2 _ _ wr=>afw w F a b size R v10 v1 v2 wr) (fun v10 _ _ _ _ _=>(intOf v10+32).toNat)
 case atStart=>
  refine ⟨(cg size).toNat,0,d,_,_,_,by simp,by simp,by simp,by omega,by omega,by have:=HFU.o;omega,?_,⟨_,_,_,_,_,_,_,_,_,rfl,rfl,rfl⟩,by rw[JU.o.1,JU.o.2];exact aU.1,aU.2.1,HD.keeps (fun x u hu=>?_),akQ,aU.2.2⟩
  ·rw[← HR.o];simp
  ·obtain ⟨h1,h2⟩:=aq.1 hu
   have:=World.block_lt_of_cell? _ _ h2;exact aq.2 ⟨⟨h1,by omega,by omega⟩,ae aU.2.2 h2⟩
 case round=>
  obtain ⟨k,i,d2,vk,vc,vp,rfl,rfl,rfl,hi,zt,hf,hre,⟨pk,nk,ck,pc,nc,cc,pp,np,cp,rfl,rfl,rfl⟩,hx,hz,hd,tj,EL⟩:=hrel;have G6:=aa hre;have Qc:=aa hx;have FC:=aa hz;have YD:=aa hd;have jZ:=aa tj;have zr:=aa EL;obtain ⟨x0,x1,x2,x3,x4⟩:=hx.five;obtain ⟨z0,z1,z2,z3,z4⟩:=hz.five;clear hre hx hz hd tj EL;obtain ⟨lf,hlf⟩:∃l:Int,size-32*(i:Int)=l:=⟨_,rfl⟩
  rw[hlf] at zt hf G6 ⊢;obtain ⟨fz2,rB⟩:∃f,d2.ah=f:=⟨_,rfl⟩
  obtain ⟨dz2,FB⟩:∃f,d2.dead=f:=⟨_,rfl⟩
  have B5:=aa (And.intro rB FB);rw[rB] at Qc x2;rw[FB] at Qc x4;have asv:lf≤256:=by omega
  have Jy:=aa hlf;clear rB FB hlf;by_cases tG:0<lf
  case neg=>have hdp:decide (0<lf)=false:=decide_eq_false tG;have HE:=aa (show R=(d2,0) by rw[G6.o];exact Le (by omega));have g0:=FC.free 0;have g1:=FC.free 1;have g2:=FC.free 2;have g3:=FC.free 3;have g4:=FC.free 4;go_wp2_with fail;have Wt:=aa (FC.mP (.slice pk nk ck) (.slice pc nc cc) (.int .i64 fz2) (.slice pp np cp) (.bool dz2));obtain ⟨q0,q1,q2,q3,q4⟩:=Wt.five;refine au (v:=.tuple #[.agg #[.slice pk nk ck,.slice pc nc cc,.int .i64 fz2,.slice pp np cp,.bool dz2],.int .i64 0]) ⟨.slice pk nk ck,.slice pc nc cc,.slice pp np cp,by rw[HE.o];unfold ew;rw[B5.o.1,B5.o.2],by rw[HE.o];exact (YD.keeps (dh (b:=w.heap.size+1) (fun h=>h.2.2 rfl) _ _ _ _ _)).keeps (aV fun q h=>h.1),cR zr (by omega) _ _ _ _ _⟩ ?_;simp[results,results31,go_sem,q0,q1,q2,q3,q4]
  case pos=>
   obtain ⟨k,rfl⟩:∃k',k=k'+1:=⟨k-1,by omega⟩
   have hdp:decide (0<lf)=true:=decide_eq_true tG;have ha1:0≤a+(i:Int)∧a+(i:Int)≤200000:=by omega
   have hb1:0≤b+(i:Int)∧b+(i:Int)≤200000:=(by omega);have HRD:=aa (K0 d2 (a+i) _ _ _ wr (YD.keeps df));unfold ew at HRD;rw[B5.o.1,B5.o.2] at HRD;have Tg:=aa (show R=(if ¬(gw d2 (a+i)).2=0 then (d2,(gw d2 (a+i)).2) else if ¬(cF d2 (b+i) (kQ (gw d2 (a+i)).1 lf)).2=0 then cF d2 (b+i) (kQ (gw d2 (a+i)).1 lf) else gM k (cF d2 (b+i) (kQ (gw d2 (a+i)).1 lf)).1 (a+i+1) (b+i+1) (lf-32)) by
    rw[G6.o,gM,if_neg (by omega)])
   have mN:=aa (fun h=>Lc (d:=d2) (a:=a+i) h);obtain ⟨⟨tx,c⟩,hrd⟩:∃q,gw d2 (a+i)=q:=⟨_,rfl⟩
   rw[hrd] at HRD Tg mN;simp only at HRD Tg mN;clear hrd G6;go_upto_region 5 with (go_at_call 81;(refine HRD.o.mono ?_);rintro e w5 ⟨rfl,aR⟩;have bp:=bh zr aR;have fK:=aa (Qc.o.below aR);have rQ:=aa (FC.o.below aR);have HD5:=aa (YD.o.keeps (aC aR fun _ _ h=>h));clear aR x0 x1 x2 x3 x4 z0 z1 z2 z3 z4);obtain ⟨x0,x1,x2,x3,x4⟩:=fK.five;obtain ⟨z0,z1,z2,z3,z4⟩:=rQ.five;by_cases hc:c=0
   case neg=>have hcb:(c != 0)=true:=(by simpa using hc);have HE:=aa (show R=(d2,c) by rw[Tg.o,if_pos hc]);have g0:=rQ.free 0;have g1:=rQ.free 1;have g2:=rQ.free 2;have g3:=rQ.free 3;have g4:=rQ.free 4;go_wp2_with fail;have Wt:=aa (rQ.mP (.slice pk nk ck) (.slice pc nc cc) (.int .i64 fz2) (.slice pp np cp) (.bool dz2));obtain ⟨q0,q1,q2,q3,q4⟩:=Wt.five;refine au (v:=.tuple #[.agg #[.slice pk nk ck,.slice pc nc cc,.int .i64 fz2,.slice pp np cp,.bool dz2],.int .i64 c]) ⟨.slice pk nk ck,.slice pc nc cc,.slice pp np cp,by rw[HE.o];unfold ew;rw[B5.o.1,B5.o.2],by rw[HE.o];exact (HD5.keeps (dh (b:=w.heap.size+1) (fun h=>h.2.2 rfl) _ _ _ _ _)).keeps (aV fun q h=>h.1),cR bp (by omega) _ _ _ _ _⟩ ?_;simp[results,results31,go_sem,q0,q1,q2,q3,q4]
   case pos=>
    subst hc;have hcb:((0:Int) != 0)=false:=rfl;have htx:=mN.o rfl;have afy:(tx.size:Int)=32:=by omega
    have Uv:=aa htx;have Z5:=aa (show R=(if ¬(cF d2 (b+i) (kQ tx lf)).2=0 then cF d2 (b+i) (kQ tx lf) else gM k (cF d2 (b+i) (kQ tx lf)).1 (a+i+1) (b+i+1) (lf-32)) by
     rw[Tg.o,if_neg (by simp)])
    have HPS:=aa (Ld htx tG);clear Tg mN;by_cases h32:lf<32
    case pos=>
     have Z6:decide (lf<32)=true:=decide_eq_true h32;obtain ⟨ln,rfl⟩:∃n:Nat,lf=n:=⟨lf.toNat,by omega⟩
     have Z0:=aa (fun W=>O5 (32-ln) (by omega) W);rw[show ((32-ln:Nat):Int)=32-(ln:Int) by omega] at Z0;have VZ:=aa (show tx.extract 0 ln++tP (32-ln)=kQ tx (ln:Int) by
      unfold kQ;rw[if_pos h32,Int.toNat_natCast,show (32-(ln:Int)).toNat=32-ln by omega];rfl)
     have hle:(ln:Int)≤(tx.size:Int):=(by omega);have hl0:(0:Int)≤(ln:Int):=by omega
     have akS:IntKind.i64.wrap (32-(ln:Int))=32-(ln:Int):=by rw[IntKind.wrap_i64];omega
     have hlw:wrap64 (32-(ln:Int))=32-(ln:Int):=by unfold wrap64;omega
     have adF:¬9223372036854775807<(tx.extract 0 ln).size+(tP (32-ln)).size:=by rw[ByteArray.size_extract,qQ];omega
     have afz:¬9223372036854775807<min ln tx.size+(tP (32-ln)).size:=by rw[qQ];omega
     have afA:¬9223372036854775807<min ln tx.size-0+(tP (32-ln)).size:=by rw[qQ];omega
     clear htx afy;go_upto_region 8 with fail;go_region_held3 (fun _=>True) (trivial) (first|((with_reducible refine (Z0.o _).mono ?_);rintro e w6 ⟨rfl,cV⟩;have cU:=aa (ak bp.o (show Bw w5 w6 from ak (aH.drew) cV));have kS:=aa (fK.o.drew.below cV);have Hb:=aa (rQ.o.drew.below cV);have HD6:=aa (HD5.o.keeps (aC (show Bw w5 w6 from ak (aH.drew) cV) fun _ _ h=>h));clear cV));obtain ⟨S,hS⟩:=aG (tx.extract 0 ln++tP (32-ln));rw[hS] at VZ ⊢;clear hS hle hl0 hlw akS adF afz afA x0 x1 x2 x3 x4 z0 z1 z2 z3 z4 Z6;have EM:=aa (show R=(if ¬(cF d2 (b+i) S).2=0 then cF d2 (b+i) S else gM k (cF d2 (b+i) S).1 (a+i+1) (b+i+1) ((ln:Int)-32)) by rw[VZ.o];exact Z5);have Vc:=aa (fun (h:d2.keep.length≤1000000)=>nh (b:=b+i) (s:=S) h);have Wu:S.size=32:=by rw[VZ.o];exact HPS.o
     have Au:=aa (xX d2 (b+i) S _ _ _ w6 (HD6.keeps df) jZ (by rw[Wu];unfold maxLen;omega) (by unfold aQ;omega));unfold Tf ew at Au;rw[B5.o.1,B5.o.2] at Au;obtain ⟨⟨d3,c3⟩,Ql⟩:∃q,cF d2 (b+i) S=q:=⟨_,rfl⟩
     rw[Ql] at Au EM Vc;simp only at Au EM Vc;obtain ⟨Wv,rB⟩:∃f,d3.ah=f:=⟨_,rfl⟩
     obtain ⟨Ww,FB⟩:∃f,d3.dead=f:=⟨_,rfl⟩
     rw[rB,FB] at Au;have EN:=aa (And.intro rB FB);have HSW:=aa (show w.heap.size+1+1≤w6.heap.size from Hb.lt);clear Ql rB FB Wu;obtain ⟨x0,x1,x2,x3,x4⟩:=kS.five;go_upto_region 10 with (go_at_call 83;(refine Au.o.mono ?_);rintro e w7 ⟨vk7,vc7,vp7,rfl,ho,dL⟩;obtain ⟨O7,O8,O9,rfl⟩:=iI ho.kept;obtain ⟨Pa,Pb,Pc,rfl⟩:=iI ho.cache;obtain ⟨Pd,Pe,Pf,rfl⟩:=iI ho.keep;have pP:=aa ho;have fw:=bh cU dL;have lj:=aa (kS.o.below dL);have Ew:=aa (Hb.o.below dL);have y0:=lj.o.cell (j:=0) rfl;have y1:=lj.o.cell (j:=1) rfl;have y2:=lj.o.cell (j:=2) rfl;have y3:=lj.o.cell (j:=3) rfl;have y4:=lj.o.cell (j:=4) rfl;obtain ⟨f0,f1,f2,f3,f4⟩:=lj.o.gJ;clear ho dL x0 x1 x2 x3 x4);obtain ⟨W8,lK⟩:=aG (((((w7.setCell ⟨w.heap.size,0,none⟩ (.slice O7 O8 O9)).setCell ⟨w.heap.size,1,none⟩ (.slice Pa Pb Pc)).setCell ⟨w.heap.size,2,none⟩ (.int .i64 Wv)).setCell ⟨w.heap.size,3,none⟩ (.slice Pd Pe Pf)).setCell ⟨w.heap.size,4,none⟩ (.bool Ww));have vS:=aa (show aK W8 w.heap.size [.slice O7 O8 O9,.slice Pa Pb Pc,.int .i64 Wv,.slice Pd Pe Pf,.bool Ww] by rw[← lK];exact lj.mP _ _ _ _ _);have tH:=aa (show aK W8 (w.heap.size+1) [.slice none 0 0,.slice none 0 0,.int .i64 0,.slice none 0 0,.bool false] by rw[← lK];exact Ew.yG (by omega) _ _ _ _ _);have gI:=aa (show Bw w W8 by rw[← lK];exact cR fw aT _ _ _ _ _);have Vy:=aa (show bN (mask (fun q=>F q∧¬q=w.heap.size∧¬q=w.heap.size+1) W8) d3 (.slice O7 O8 O9) (.slice Pa Pb Pc) (.slice Pd Pe Pf) by
      rw[← lK];exact (pP.at (F:=fun q=>F q∧¬q=w.heap.size∧¬q=w.heap.size+1) (fun q hq=>by have:=HSW.o;exact ⟨HF q (by omega),by omega,by omega⟩)).keeps (dh (b:=w.heap.size) (fun h=>h.2.1 rfl) _ _ _ _ _))
     rw[lK];clear lK y0 y1 y2 y3 y4 f0 f1 f2 f3 f4;obtain ⟨x0,x1,x2,x3,x4⟩:=vS.five;obtain ⟨z0,z1,z2,z3,z4⟩:=tH.five;by_cases hc3:c3=0
     case neg=>have Z7:(c3 != 0)=true:=(by simpa using hc3);have HE:=aa (show R=(d3,c3) by rw[EM.o,if_pos hc3]);have g0:=tH.free 0;have g1:=tH.free 1;have g2:=tH.free 2;have g3:=tH.free 3;have g4:=tH.free 4;go_wp2_with fail;have Wt:=aa (tH.mP (.slice O7 O8 O9) (.slice Pa Pb Pc) (.int .i64 Wv) (.slice Pd Pe Pf) (.bool Ww));obtain ⟨q0,q1,q2,q3,q4⟩:=Wt.five;refine au (v:=.tuple #[.agg #[.slice O7 O8 O9,.slice Pa Pb Pc,.int .i64 Wv,.slice Pd Pe Pf,.bool Ww],.int .i64 c3]) ⟨.slice O7 O8 O9,.slice Pa Pb Pc,.slice Pd Pe Pf,by rw[HE.o];unfold ew;rw[EN.o.1,EN.o.2],by rw[HE.o];exact (Vy.keeps (dh (b:=w.heap.size+1) (fun h=>h.2.2 rfl) _ _ _ _ _)).keeps (aV fun q h=>h.1),cR gI (by omega) _ _ _ _ _⟩ ?_;simp[results,results31,go_sem,q0,q1,q2,q3,q4]
     case pos=>
      subst hc3;have Z7:((0:Int) != 0)=false:=rfl;have HE:=aa (show R=gM k d3 (a+i+1) (b+i+1) ((ln:Int)-32) by rw[EM.o,if_neg (by simp)]);go_wp2_with fail;go_roundw
      case rel=>exact ⟨k,i+1,d3,_,_,_,by rw[show size-32*((i+1:Nat):Int)=(ln:Int)-32 by have:=Jy.o;omega],by rw[show a+((i+1:Nat):Int)=a+i+1 by omega],by rw[show b+((i+1:Nat):Int)=b+i+1 by omega],by have:=Jy.o;omega,by have:=Jy.o;omega,by have:=Jy.o;omega,by rw[HE.o,show size-32*((i+1:Nat):Int)=(ln:Int)-32 by have:=Jy.o;omega,show a+((i+1:Nat):Int)=a+i+1 by omega,show b+((i+1:Nat):Int)=b+i+1 by omega],⟨_,_,_,_,_,_,_,_,_,rfl,rfl,rfl⟩,by rw[EN.o.1,EN.o.2];exact vS,tH,Vy,Vc jZ,gI⟩
      case measure=>simp[intOf];omega
    case neg=>
     have Z6:decide (lf<32)=false:=decide_eq_false h32;have VZ:=aa (show tx=kQ tx lf by unfold kQ;rw[if_neg h32]);go_upto_region 9 with fail;obtain ⟨S,hS⟩:=aG tx;rw[hS] at VZ Z5 HPS ⊢;clear x0 x1 x2 x3 x4 z0 z1 z2 z3 z4 Z6 htx afy;have EM:=aa (show R=(if ¬(cF d2 (b+i) S).2=0 then cF d2 (b+i) S else gM k (cF d2 (b+i) S).1 (a+i+1) (b+i+1) (lf-32)) by rw[VZ.o];exact Z5);have Vc:=aa (fun (h:d2.keep.length≤1000000)=>nh (b:=b+i) (s:=S) h);have Wu:S.size=32:=by rw[VZ.o];exact HPS.o
     have Au:=aa (xX d2 (b+i) S _ _ _ w5 (HD5.keeps df) jZ (by rw[Wu];unfold maxLen;omega) (by unfold aQ;omega));unfold Tf ew at Au;rw[B5.o.1,B5.o.2] at Au;obtain ⟨⟨d3,c3⟩,Ql⟩:∃q,cF d2 (b+i) S=q:=⟨_,rfl⟩
     rw[Ql] at Au EM Vc;simp only at Au EM Vc;obtain ⟨Wv,rB⟩:∃f,d3.ah=f:=⟨_,rfl⟩
     obtain ⟨Ww,FB⟩:∃f,d3.dead=f:=⟨_,rfl⟩
     rw[rB,FB] at Au;have EN:=aa (And.intro rB FB);have HSW:=aa (show w.heap.size+1+1≤w5.heap.size from rQ.lt);clear Ql rB FB Wu;obtain ⟨x0,x1,x2,x3,x4⟩:=fK.five;go_upto_region 10 with (go_at_call 83;(refine Au.o.mono ?_);rintro e w7 ⟨vk7,vc7,vp7,rfl,ho,dL⟩;obtain ⟨O7,O8,O9,rfl⟩:=iI ho.kept;obtain ⟨Pa,Pb,Pc,rfl⟩:=iI ho.cache;obtain ⟨Pd,Pe,Pf,rfl⟩:=iI ho.keep;have pP:=aa ho;have fw:=bh bp dL;have lj:=aa (fK.o.below dL);have Ew:=aa (rQ.o.below dL);have y0:=lj.o.cell (j:=0) rfl;have y1:=lj.o.cell (j:=1) rfl;have y2:=lj.o.cell (j:=2) rfl;have y3:=lj.o.cell (j:=3) rfl;have y4:=lj.o.cell (j:=4) rfl;obtain ⟨f0,f1,f2,f3,f4⟩:=lj.o.gJ;clear ho dL x0 x1 x2 x3 x4);obtain ⟨W8,lK⟩:=aG (((((w7.setCell ⟨w.heap.size,0,none⟩ (.slice O7 O8 O9)).setCell ⟨w.heap.size,1,none⟩ (.slice Pa Pb Pc)).setCell ⟨w.heap.size,2,none⟩ (.int .i64 Wv)).setCell ⟨w.heap.size,3,none⟩ (.slice Pd Pe Pf)).setCell ⟨w.heap.size,4,none⟩ (.bool Ww));have vS:=aa (show aK W8 w.heap.size [.slice O7 O8 O9,.slice Pa Pb Pc,.int .i64 Wv,.slice Pd Pe Pf,.bool Ww] by rw[← lK];exact lj.mP _ _ _ _ _);have tH:=aa (show aK W8 (w.heap.size+1) [.slice none 0 0,.slice none 0 0,.int .i64 0,.slice none 0 0,.bool false] by rw[← lK];exact Ew.yG (by omega) _ _ _ _ _);have gI:=aa (show Bw w W8 by rw[← lK];exact cR fw aT _ _ _ _ _);have Vy:=aa (show bN (mask (fun q=>F q∧¬q=w.heap.size∧¬q=w.heap.size+1) W8) d3 (.slice O7 O8 O9) (.slice Pa Pb Pc) (.slice Pd Pe Pf) by
      rw[← lK];exact (pP.at (F:=fun q=>F q∧¬q=w.heap.size∧¬q=w.heap.size+1) (fun q hq=>by have:=HSW.o;exact ⟨HF q (by omega),by omega,by omega⟩)).keeps (dh (b:=w.heap.size) (fun h=>h.2.1 rfl) _ _ _ _ _))
     rw[lK];clear lK y0 y1 y2 y3 y4 f0 f1 f2 f3 f4;obtain ⟨x0,x1,x2,x3,x4⟩:=vS.five;obtain ⟨z0,z1,z2,z3,z4⟩:=tH.five;by_cases hc3:c3=0
     case neg=>have Z7:(c3 != 0)=true:=(by simpa using hc3);have HE:=aa (show R=(d3,c3) by rw[EM.o,if_pos hc3]);have g0:=tH.free 0;have g1:=tH.free 1;have g2:=tH.free 2;have g3:=tH.free 3;have g4:=tH.free 4;go_wp2_with fail;have Wt:=aa (tH.mP (.slice O7 O8 O9) (.slice Pa Pb Pc) (.int .i64 Wv) (.slice Pd Pe Pf) (.bool Ww));obtain ⟨q0,q1,q2,q3,q4⟩:=Wt.five;refine au (v:=.tuple #[.agg #[.slice O7 O8 O9,.slice Pa Pb Pc,.int .i64 Wv,.slice Pd Pe Pf,.bool Ww],.int .i64 c3]) ⟨.slice O7 O8 O9,.slice Pa Pb Pc,.slice Pd Pe Pf,by rw[HE.o];unfold ew;rw[EN.o.1,EN.o.2],by rw[HE.o];exact (Vy.keeps (dh (b:=w.heap.size+1) (fun h=>h.2.2 rfl) _ _ _ _ _)).keeps (aV fun q h=>h.1),cR gI (by omega) _ _ _ _ _⟩ ?_;simp[results,results31,go_sem,q0,q1,q2,q3,q4]
     case pos=>
      subst hc3;have Z7:((0:Int) != 0)=false:=rfl;have HE:=aa (show R=gM k d3 (a+i+1) (b+i+1) (lf-32) by rw[EM.o,if_neg (by simp)]);go_wp2_with fail;go_roundw
      case rel=>exact ⟨k,i+1,d3,_,_,_,by rw[show size-32*((i+1:Nat):Int)=lf-32 by have:=Jy.o;omega],by rw[show a+((i+1:Nat):Int)=a+i+1 by omega],by rw[show b+((i+1:Nat):Int)=b+i+1 by omega],by have:=Jy.o;omega,by have:=Jy.o;omega,by have:=Jy.o;omega,by rw[HE.o,show size-32*((i+1:Nat):Int)=lf-32 by have:=Jy.o;omega,show a+((i+1:Nat):Int)=a+i+1 by omega,show b+((i+1:Nat):Int)=b+i+1 by omega],⟨_,_,_,_,_,_,_,_,_,rfl,rfl,rfl⟩,by rw[EN.o.1,EN.o.2];exact vS,tH,Vy,Vc jZ,gI⟩
      case measure=>simp[intOf];omega
def Place (L:Nat) (y:aB):Prop:=0≤y.chunk∧y.chunk<L∧0≤y.pos∧y.pos≤15
def oC (c:List (List aj)):Prop:=∀t∈c,t.length≤1000
theorem IK (a n:Int):∀l:List aj,(jn a n l).length=l.length+1
 |[]=>rfl
 |u::l=>by
  unfold jn
  split
  ·rfl
  ·rw[List.length_cons,IK a n l];rfl
theorem Pg {l t:List aj} {n a:Int} (h:gQ l n=(t,a,true)):dE l=true∧1≤n∧n≤8∧t=jn a n l∧0≤a∧a+n≤16∧gy (gD l) n=a:=by
 unfold gQ at h;by_cases h1:dE l=true∧1≤n∧n≤8
 ·rw[if_pos h1] at h
  by_cases h2:gy (gD l) n<0
  ·rw[if_pos h2] at h;simp at h
  ·rw[if_neg h2] at h
   simp only[Prod.mk.injEq,and_true] at h;obtain ⟨e1,e2⟩:=h;obtain ⟨_,_,h3⟩:=Db h1.1 e2 (by omega);exact ⟨h1.1,h1.2.1,h1.2.2,by rw[← e1,e2],by omega,h3,e2⟩
 ·rw[if_neg h1] at h;simp at h
theorem mE {c:List (List aj)} {n no:Int} (h:(bR c n no).2.2.2=true):cI c=true∧∃(i:Nat) (u:List aj),c[i]?=some u∧¬(i:Int)=no∧(bR c n no).2.1=i∧0≤(bR c n no).2.2.1∧(bR c n no).2.2.1+n≤16∧1≤n∧dE u=true∧gy (gD u) n=(bR c n no).2.2.1 ∧
 (bR c n no).1=c.set i (jn (bR c n no).2.2.1 n u):=by
 unfold bR at h ⊢;by_cases hm:cI c=true
 ·rw[if_pos hm] at h ⊢
  cases hg:jT n no 0 c with
  |none=>rw[hg] at h;simp at h
  |some q=>obtain ⟨i,t,a⟩:=q;obtain ⟨_,_,h3,u,h4,h5,h6,h7⟩:=G1 hg;obtain ⟨h8,h9,h10,h11,h12,Z8,h14⟩:=Pg (l:=u) (n:=n) (t:=t) (a:=a) (by rw[h6,h7,← h5]);exact ⟨hm,i,u,h4,h3,rfl,h12,Z8,h9,h8,h14,by rw[h11]⟩
 ·rw[if_neg hm] at h;simp at h
theorem EO {c:List (List aj)} {n no:Int} (h:(bR c n no).2.2.2=true):(bR c n no).1.length=c.length∧oC (bR c n no).1:=by
 obtain ⟨hm,i,u,h1,h2,h3,h4,h5,h6,h7,h8,h9⟩:=mE h;rw[h9];refine ⟨List.length_set ..,fun t ht=>?_⟩;unfold cI at hm;simp only[Bool.and_eq_true,List.all_eq_true] at hm;rcases List.mem_or_eq_of_mem_set ht with ht|ht
 ·have:=gP (hm.1 t ht);omega
 ·rw[ht,IK];have:=gP h7;omega
theorem nJ {n:Int}:∀ {l:List (aB×Int)} {c c':List (List aj)} {f f':Int→Option aB},bH n l (c,f)=some (c',f')→oC c→c'.length=c.length∧oC c'∧(∀k y,f' k=some y→f k=some y∨Place c.length y)∧∀x∈l,∃y,f' (cD x.1)=some y
 |[],c,c',f,f',h,hs=>by unfold bH at h;injection h with h;injection h with h1 h2;subst h1;subst h2;exact ⟨rfl,hs,fun k y h=>.inl h,fun x hx=>by simp at hx⟩
 |x::l,c,c',f,f',h,hs=>by
  unfold bH at h;by_cases e:(bR c (cg x.1.size) n).2.2.2=true
  ·rw[if_pos e] at h
   obtain ⟨Bz,hs1⟩:=EO e;obtain ⟨_,i,u,h1,h2,h3,h4,h5,h6,_⟩:=mE e;have hi:=(List.getElem?_eq_some_iff.1 h1).1;obtain ⟨r1,r2,r3,r4⟩:=nJ h hs1;refine ⟨r1.trans Bz,r2,fun k y hk=>?_,fun z hz=>?_⟩
   ·rcases r3 k y hk with h|h
    ·unfold qP at h
     by_cases e2:k=cD x.1
     ·rw[if_pos e2] at h;injection h with h
      right;rw[← h];exact ⟨by rw[h3];exact Int.natCast_nonneg i,by rw[h3];exact Int.ofNat_lt.2 hi,h4,by show (bR c (cg x.1.size) n).2.2.1≤15;omega⟩
     ·rw[if_neg e2] at h;exact .inl h
    ·right;rw[Bz] at h;exact h
   ·rw[List.mem_cons] at hz
    rcases hz with rfl|hz
    ·by_cases hx:∃y,f' (cD z.1)=some y
     ·exact hx
     ·exfalso
      have:∀ {l:List (aB×Int)} {c c':List (List aj)} {f f':Int→Option aB} {k:Int} {y:aB},bH n l (c,f)=some (c',f')→f k=some y→∃y,f' k=some y:=by
       intro l
       induction l with
       |nil=>intro c c' f f' k y h hk;unfold bH at h;injection h with h;injection h with _ h2;exact ⟨y,by rw[← h2];exact hk⟩
       |cons a l ih=>
        intro c c' f f' k y h hk;unfold bH at h;by_cases e:(bR c (cg a.1.size) n).2.2.2=true
        ·rw[if_pos e] at h
         by_cases e2:k=cD a.1
         ·exact ih h (y:=⟨(bR c (cg a.1.size) n).2.1,(bR c (cg a.1.size) n).2.2.1,a.1.size,a.1.packed⟩) (by show qP _ _ _ _=_;unfold qP;rw[if_pos e2])
         ·exact ih h (y:=y) (by show qP _ _ _ _=_;unfold qP;rw[if_neg e2];exact hk)
        ·rw[if_neg e] at h;cases h
      exact hx (this h (y:=⟨(bR c (cg z.1.size) n).2.1,(bR c (cg z.1.size) n).2.2.1,z.1.size,z.1.packed⟩) (by show qP _ _ _ _=_;unfold qP;rw[if_pos rfl]))
    ·exact r4 z hz
  ·rw[if_neg e] at h;cases h
theorem EP {c:List (List aj)} {x:aB} {b:Int} (h:(fM c x b).2=true) (hs:oC c):(fM c x b).1.length=c.length∧oC (fM c x b).1:=by
 unfold fM at h ⊢;by_cases h1:cI c=true∧G2 c x=true
 ·rw[if_pos h1] at h ⊢
  by_cases h2:(jD ((c[x.chunk.toNat]?).getD []) x.pos b).2=true
  ·rw[if_pos h2]
   refine ⟨List.length_set ..,fun t ht=>?_⟩;rcases List.mem_or_eq_of_mem_set ht with ht|ht
   ·exact hs t ht
   ·rw[ht]
    have hc:((c[x.chunk.toNat]?).getD []).length≤1000:=by
     cases hg:c[x.chunk.toNat]? with
     |none=>simp
     |some u=>exact hs u (List.mem_of_getElem? hg)
    unfold jD
    split
    ·exact Nat.le_trans (Nz _ _ _) hc
    ·simp
  ·rw[if_neg h2] at h;cases h
 ·rw[if_neg h1] at h;cases h
theorem Dk {c:List (List aj)} {i:Nat} {a n:Int} (hs:oC c):oC (c.set i (((c[i]?).getD []).map (cJ a n))):=fun t ht=>by
 rcases List.mem_or_eq_of_mem_set ht with ht|ht
 ·exact hs t ht
 ·rw[ht,List.length_map]
  cases hg:c[i]? with
  |none=>simp
  |some u=>exact hs u (List.mem_of_getElem? hg)
theorem ER {c:List (List aj)} {y x:aB} {often:Int} (hs:oC c):(ju c y x often).length=c.length∧oC (ju c y x often):=by
 unfold ju;have h1:=Dk (i:=y.chunk.toNat) (a:=y.pos) (n:=often) hs;have h2:=Dk (i:=x.chunk.toNat) (a:=x.pos) (n:=1) h1;simp only;by_cases e:(fM ((c.set y.chunk.toNat (((c[y.chunk.toNat]?).getD []).map (cJ y.pos often))).set x.chunk.toNat ((((c.set y.chunk.toNat (((c[y.chunk.toNat]?).getD []).map (cJ y.pos often)))[x.chunk.toNat]?).getD []).map (cJ x.pos 1))) x (-1)).2=true
 ·rw[if_pos e]
  obtain ⟨h3,h4⟩:=EP e h2;exact ⟨h3.trans (by rw[List.length_set,List.length_set]),h4⟩
 ·rw[if_neg e]
  exact ⟨by rw[List.length_set,List.length_set],h2⟩
theorem B6 (f:Int→Option aB) (l:List (aB×Int)) (x:aB×Int) (c:List (List aj)):cH f (l++[x]) c=ju (cH f l c) ((f (cD x.1)).getD aB.zero) x.1 x.2:=by unfold cH;rw[List.foldl_append];rfl
theorem qR (f:Int→Option aB):∀(l:List (aB×Int)) {c:List (List aj)},oC c→(cH f l c).length=c.length∧oC (cH f l c)
 |[],c,h=>⟨rfl,h⟩
 |x::l,c,h=>by have h1:=ER (y:=(f (cD x.1)).getD aB.zero) (x:=x.1) (often:=x.2) h;obtain ⟨h2,h3⟩:=qR f l h1.2;exact ⟨h2.trans h1.1,h3⟩
theorem qT:∀(k:Nat) {d:aO} {a b left:Int},d.keep.length≤1000000→(gM k d a b left).1.keep.length≤1000000
 |0,d,a,b,left,h=>h
 |k+1,d,a,b,left,h=>by
  unfold gM
  split
  ·exact h
  ·split
   ·exact h
   ·split
    ·exact nh h
    ·exact qT k (nh h)
theorem sN (met:Int) (f:Int→Option aB):∀(l:List (aB×Int)) {d:aO},d.keep.length≤1000000→(bB met f l d).1.keep.length≤1000000
 |[],d,h=>h
 |x::l,d,h=>by
  unfold bB
  split
  ·exact qT _ h
  ·exact sN met f l (qT _ h)
theorem uV {n:Int}:∀ {l:List (aB×Int)} {s:List (List aj)×(Int→Option aB)} (m:List (aB×Int)),bH n l s=none→bH n (l++m) s=none
 |[],s,m,h=>by unfold bH at h;cases h
 |a::l,s,m,h=>by
  unfold bH at h;rw[List.cons_append,bH];by_cases e:(bR s.1 (cg a.1.size) n).2.2.2=true
  ·rw[if_pos e] at h ⊢;exact uV m h
  ·rw[if_neg e]
theorem sO {met:Int} {f:Int→Option aB}:∀ {l:List (aB×Int)} {d:aO} (m:List (aB×Int)),¬(bB met f l d).2=0→bB met f (l++m) d=bB met f l d
 |[],d,m,h=>by unfold bB at h;exact absurd rfl h
 |a::l,d,m,h=>by
  unfold bB at h;rw[List.cons_append,bB,bB];by_cases e:¬(mC met d a.1 ((f (cD a.1)).getD aB.zero)).2=0
  ·rw[if_pos e,if_pos e]
  ·rw[if_neg e] at h ⊢;rw[if_neg e];exact sO m h
theorem Ca {met:Int} {l:List (aB×Int)} {x:aB×Int} {d':aO} (h:bB met f l d=(d',0)):bB met f (l++[x]) d=mC met d' x.1 ((f (cD x.1)).getD aB.zero):=by
 rw[EJ h];unfold bB;by_cases e:¬(mC met d' x.1 ((f (cD x.1)).getD aB.zero)).2=0
 ·rw[if_pos e]
 ·rw[if_neg e]
  unfold bB;have:(mC met d' x.1 ((f (cD x.1)).getD aB.zero)).2=0:=by omega
  rw[← this]
theorem ky {l:List ay} {n:Int} {x:aB×Int} (h:x∈fE l n):cO x.1=true∧x.1.chunk=n:=by unfold fE at h;obtain ⟨p,hp,rfl⟩:=List.mem_map.1 h;obtain ⟨_,hp⟩:=List.mem_filter.1 hp;rw[Bool.and_eq_true,decide_eq_true_eq] at hp;unfold rX at hp;rw[Bool.and_eq_true] at hp;exact ⟨hp.1.2,hp.2⟩
def mF:List UInt8:=List.replicate 256 (0:UInt8)
def z24:List UInt8:=[1,128,10,0,80,241,128,32,16,8,4,2,1,0,128,64,32,16,8,4,2,1,192,64]
theorem akT:Ex mF=(z24,true,true):=by kernel_rfl
def s32:ByteArray:=⟨(z24++List.replicate 8 (0:UInt8)).toArray⟩
def cT:aO:=⟨List.replicate 42 iT,[],-1,[],false⟩
def dm:aO:=⟨List.replicate 42 iT,[(10,s32)],-1,[],false⟩
def xZ:cm:=⟨cT,4,1,0,[],[[],[]]⟩
def Dl (t:ag):cm:=⟨cT,4,1,0,[⟨1,3,t⟩],[[],[]]⟩
def eB (t:ag):cm:=⟨dm,4,1,0,[⟨1,3,t⟩],[[(0,1,1,false)],[]]⟩
theorem afB:J2 42=(cT,0):=by kernel_rfl
theorem Dm:fZ cT=true:=by kernel_rfl
theorem Ph:fZ dm=true:=by kernel_rfl
theorem afC:G9 cT 10 ⟨z24.toArray⟩ 1=(dm,0):=by kernel_rfl
theorem afD:cD ⟨0,0,24,true⟩=49:=by kernel_rfl
theorem Z9:bR [[],[]] 1 (-1)=([[(0,1,1,false)],[]],0,0,true):=by kernel_rfl
theorem qU {l:List ay} (h:Grown l t) (hr:jy l=true) (hp:l.all (dG 3)=true):dP [⟨1,3,t⟩]=true:=by
 rw[dr];refine ⟨fun d hd=>?_,fun i x y hx hy=>?_,by simp⟩
 ·rw[List.mem_singleton] at hd
  subst hd;unfold cE;simp only;rw[h.may hr,h.1,hp];rfl
 ·cases i <;> simp at hy
theorem mG {l:List ay} (h:Grown l t) (hr:jy l=true) (hp:l.all (dG 3)=true):aX [⟨1,3,t⟩]=dX [] l:=by unfold aX;rw[if_pos (qU h hr hp)];simp only[eU];rw[h.1]
theorem rT {c:Int} {T:List (List aj)} (h1:1≤c∧c≤1000) (h2:dP l=true) {C:List ay} (hc:aX l=C) (h3:fY c.toNat (List.replicate c.toNat []) C=some T) (h4:T.all dE=true):bX l c=some T:=by unfold bX;rw[if_pos ⟨h1.1,h1.2,h2⟩,hc,h3];simp only;rw[if_pos h4]
theorem Pj:cG xZ=true:=by
 rw[bO];refine ⟨Dm,by kernel_rfl,by show (1:Int)≤4∧(4:Int)≤1000;omega,by show (1:Int)≤1∧(1:Int)<1099511627776;omega,.inl rfl,by kernel_rfl,?_⟩;have hv:dP []=true:=by rw[dr];exact ⟨fun d hd=>by simp at hd,fun i x y hx hy=>by simp at hy,by simp⟩
 exact rT (by show (1:Int)≤2∧(2:Int)≤1000;omega) hv (C:=[]) (by show aX []=[];unfold aX;rw[if_pos hv];rfl) (by kernel_rfl) (by kernel_rfl)
theorem Pk (h:Grown [] t):cG (Dl t)=true:=by rw[bO];refine ⟨Dm,by kernel_rfl,by show (1:Int)≤4∧(4:Int)≤1000;omega,by show (1:Int)≤1∧(1:Int)<1099511627776;omega,.inl rfl,by kernel_rfl,?_⟩;exact rT (by show (1:Int)≤2∧(2:Int)≤1000;omega) (qU h (by kernel_rfl) (by kernel_rfl)) (C:=[]) (mG h (by kernel_rfl) (by kernel_rfl)) (by kernel_rfl) (by kernel_rfl)
theorem yZ (h:Grown [(2,49)] t):cG (eB t)=true:=by rw[bO];refine ⟨Ph,by kernel_rfl,by show (1:Int)≤4∧(4:Int)≤1000;omega,by show (1:Int)≤1∧(1:Int)<1099511627776;omega,.inl rfl,by kernel_rfl,?_⟩;exact rT (by show (1:Int)≤2∧(2:Int)≤1000;omega) (qU h (by kernel_rfl) (by kernel_rfl)) (C:=[(49,1)]) ((mG h (by kernel_rfl) (by kernel_rfl)).trans (by kernel_rfl)) (by kernel_rfl) (by kernel_rfl)
theorem afE (h:Grown [(2,49)] t):bC [⟨1,3,t⟩] 0=[(⟨0,0,24,true⟩,1)]:=by
 unfold bC;rw[(mG h (by kernel_rfl) (by kernel_rfl)).trans (show dX [] [(2,49)]=[(49,1)] by kernel_rfl)]
 kernel_rfl
theorem afF (h:Grown [(2,49)] t):bC [⟨1,3,t⟩] 1=[]:=by
 unfold bC;rw[(mG h (by kernel_rfl) (by kernel_rfl)).trans (show dX [] [(2,49)]=[(49,1)] by kernel_rfl)]
 kernel_rfl
def Uw:Int→Option aB:=qP (fun _=>none) 49 ⟨1,0,24,true⟩
def qV:aO:=⟨List.replicate 42 iT,[(10,s32),(26,s32)],-1,[],false⟩
def wO (t:ag):cm:=⟨qV,4,1,0,[mD Uw ⟨1,3,t⟩],[[],[(0,1,1,false)]]⟩
theorem aaa:bH 0 [((⟨0,0,24,true⟩:aB),(1:Int))] ([[(0,1,1,false)],[]],fun _=>none)=some ([[(0,1,1,false)],[(0,1,1,false)]],Uw):=by
 unfold bH;rw[if_pos (by kernel_rfl)];unfold bH;have h1:bR [[(0,1,1,false)],[]] (cg 24) 0=([[(0,1,1,false)],[(0,1,1,false)]],1,0,true):=by kernel_rfl
 simp only at h1 ⊢;rw[h1,afD];rfl
theorem aab:bB 4 Uw [((⟨0,0,24,true⟩:aB),(1:Int))] dm=(qV,0):=by kernel_rfl
theorem aaf:cH Uw [((⟨0,0,24,true⟩:aB),(1:Int))] [[(0,1,1,false)],[(0,1,1,false)]]=[[],[(0,1,1,false)]]:=by kernel_rfl
theorem ES {p:cm} (h:cG p=true):¬cG p=false:=by rw[h];simp
theorem aag (h:Grown [(2,49)] t):dC (eB t) 0=(wO t,0):=by unfold dC;rw[if_neg (ES (yZ h)),if_neg (show ¬(eB t).disk.dead=true by simp[eB,dm]),if_neg (show ¬((0:Int)<0∨((eB t).tabs.length:Int)≤0) by simp[eB])];have hv:bC (eB t).aw 0=[(⟨0,0,24,true⟩,1)]:=afE h;rw[hv];have ht:bH 0 [((⟨0,0,24,true⟩:aB),(1:Int))] ((eB t).tabs,fun _=>none)=some ([[(0,1,1,false)],[(0,1,1,false)]],Uw):=aaa;have hc:bB (eB t).met Uw [((⟨0,0,24,true⟩:aB),(1:Int))] (eB t).disk=(qV,0):=aab;rw[ht];simp only;rw[hc,aaf,if_neg (by simp)];rfl
theorem Pm (v:Int):ie (fun _=>none) v=v:=rfl
theorem Dr (t:ag):iX (fun _=>none) t=t:=by
 induction t using ag.ind with
 |h ks vs kids ih=>
  simp only[iX,oB];congr 1
  ·rw[show ie (fun _=>none)=id from funext Pm,List.map_id]
  ·refine (List.map_congr_left (g:=id) fun t ht=>ih t ht).trans (List.map_id _)
theorem aah (h:Grown [(2,49)] t):dC (eB t) 1=(eB t,0):=by
 unfold dC;rw[if_neg (ES (yZ h)),if_neg (show ¬(eB t).disk.dead=true by simp[eB,dm]),if_neg (show ¬((1:Int)<0∨((eB t).tabs.length:Int)≤1) by simp[eB])];have hv:bC (eB t).aw 1=[]:=afF h;rw[hv];simp only[bH,bB,cH,List.foldl_nil];rw[if_neg (by simp)];have hr:(eB t).aw.map (mD fun _=>none)=(eB t).aw:=by unfold eB mD;simp only[List.map_cons,List.map_nil,Dr]
 rw[hr]
theorem aai (h:Grown [(2,49)] t):dC (eB t) 2=(eB t,1):=by unfold dC;rw[if_neg (ES (yZ h)),if_neg (show ¬(eB t).disk.dead=true by simp[eB,dm]),if_pos (show (2:Int)<0∨((eB t).tabs.length:Int)≤2 by simp[eB])]
theorem ya (h:Grown [(2,49)] t):Grown [(2,8273)] (iX Uw t):=by have:=h.rew Uw;rw[show [((2:Int),(49:Int))].map (Wx Uw)=[(2,8273)] by kernel_rfl] at this;exact this
theorem Pn (h:Grown [(2,49)] t):cG (wO t)=true:=by have hg:=ya h;rw[bO];refine ⟨by kernel_rfl,by kernel_rfl,by show (1:Int)≤4∧(4:Int)≤1000;omega,by show (1:Int)≤1∧(1:Int)<1099511627776;omega,.inl rfl,by kernel_rfl,?_⟩;exact rT (l:=[⟨1,3,iX Uw t⟩]) (by show (1:Int)≤2∧(2:Int)≤1000;omega) (qU hg (by kernel_rfl) (by kernel_rfl)) (C:=[(8273,1)]) ((mG hg (by kernel_rfl) (by kernel_rfl)).trans (by kernel_rfl)) (by kernel_rfl) (by kernel_rfl)
theorem jI {l:List ay} (h:Grown l t) (hl:l.length≤2000) (a b:Int):bM [⟨a,b,t⟩]:=fun d hd=>by rw[List.mem_singleton] at hd;subst hd;show (aA t).length≤2000;rw[h.1];exact hl
def FN (lo b3 hi:Nat):Nat→Prop:=fun q=>lo+2≤q∧q<hi∧q≠b3
structure Bb (w:World) (a b c:Value) (ks vs:List Int) (kids:List ag) (k:Nat) (b3:Nat) (x y z:Value) (wr:World):Prop where
 box:cL wr b3 x y z
 arg:aK wr w.heap.size [a,b,c]
 res:aK wr (w.heap.size+1) [.slice none 0 0,.slice none 0 0,.slice none 0 0]
 hb:w.heap.size+2≤b3
 tree:fR wr (FN w.heap.size b3 wr.heap.size) (.mk ks vs (kids.take k)) x y z
 below:Bw w wr
theorem EU (W:World) (B n:Nat) (v:Value) (xs:List Value) (hown:W.ownsRow B 73 3 v n xs) (hn:n≤1000000) (hB:B≤W.heap.size) :
 ∃g cap w2,(Builtin.append_ #[71,71] 71 #[v,.slice (some ⟨W.heap.size,0,none⟩) 1 1]).run prog (W.alloc (.cells #[.slice pa na ca,.slice pb nb cb,.slice pc nc cc] 73))=.ok (.slice (some ⟨g,0,none⟩) (n+1) cap) w2 ∧
  w2.ownsRow B 73 3 (.slice (some ⟨g,0,none⟩) (n+1) cap) (n+1) (xs++[.slice pa na ca,.slice pb nb cb,.slice pc nc cc])∧(W.alloc (.cells #[.slice pa na ca,.slice pb nb cb,.slice pc nc cc] 73)).grownBy w2 v.ownBlock∧((Value.slice (some ⟨g,0,none⟩) (n+1) cap).ownBlock=v.ownBlock∨(Value.slice (some ⟨g,0,none⟩) (n+1) cap).ownBlock=some (W.heap.size+1)):=by
 obtain ⟨i0,iM,hz0,hz1,hz2⟩:=info_parts Qs;obtain ⟨v',w',r1,r2,r3,_,r5⟩:=run_append_own_at (P:=prog) (W.alloc (.cells #[.slice pa na ca,.slice pb nb cb,.slice pc nc cc] 73)) B 71 71 73 i0 _ 3 72 underlying71 iM hz0 hz1 hz2 rfl (by decide) v n _ (hown.alloc _) ⟨W.heap.size,0,none⟩ 1 1 [.slice pa na ca,.slice pb nb cb,.slice pc nc cc] rfl (by
  intro j u hu;rw[jM,World.cell?_alloc_at _ _ _ _ rfl];rcases j with _|_|_|j
  ·exact hu
  ·exact hu
  ·exact hu
  ·simp at hu) (by
  intro u hu;simp only[List.mem_cons,List.not_mem_nil,or_false] at hu;rcases hu with rfl|rfl|rfl <;> rfl) (by unfold maxLen;omega) (by omega) (by simp;omega)
 obtain ⟨g,cap,rfl⟩:=ownsRow_succ r2;exact ⟨g,cap,w',r1,r2,r3,by rw[World.size_alloc] at r5;exact r5⟩
theorem Ya {z:Value} {e:TypeId} {xs:List Value} (h:cL W b x y z) (hr:W.ownsRow B e k v n xs) (he:e≠73):v.ownBlock≠some b:=by
 intro e';rcases aJ hr with ⟨hv,_,_⟩|⟨g,cap,hv⟩
 ·rw[hv] at e';cases e'
 ·subst hv
  obtain ⟨cur,hc,_⟩:=bl hr;have:g=b:=by simpa [Value.ownBlock] using e'
  subst this;rw[show W.heap[g]?=_ from h] at hc;injection hc with hc;injection hc with _ h2 _;exact he h2.symm
theorem qW {W':World} {B' k' n':Nat} {e e':TypeId} {xs ys:List Value} (h:W.ownsRow B e k u n xs) (h':W'.ownsRow B' e' k' v n' ys) (hl:W.heap.size≤B'):eo u v:=by
 rcases aJ h with ⟨hu,_,_⟩|⟨g,cap,hu⟩
 ·left;rw[hu];rfl
 ·right;rw[hu]
  intro e;have h1:=(h.lt g (by rw[hu];rfl)).2;have h2:=(h'.lt g (by rw[← e];rfl)).1;omega
theorem tQ (h:Below B w W) (hb:B≤b) (y0 y1 y2:Value):Below B w (((W.setCell ⟨b,0,none⟩ y0).setCell ⟨b,1,none⟩ y1).setCell ⟨b,2,none⟩ y2):=((h.setCell (p:=⟨b,0,none⟩) hb y0).setCell (p:=⟨b,1,none⟩) hb y1).setCell (p:=⟨b,2,none⟩) hb y2
theorem aK.afJ {b':Nat} {cs:List Value} (h:aK W b cs) (hne:b'≠b) (y0 y1 y2:Value):aK (((W.setCell ⟨b',0,none⟩ y0).setCell ⟨b',1,none⟩ y1).setCell ⟨b',2,none⟩ y2) b cs:=((h.far hne 0 y0).far hne 1 y1).far hne 2 y2
theorem o8 (W:World) (b:Nat) (y0 y1 y2:Value):W.grownBy (((W.setCell ⟨b,0,none⟩ y0).setCell ⟨b,1,none⟩ y1).setCell ⟨b,2,none⟩ y2) (some b):=aW (aW (av W b 0 y0) (av _ b 1 y1)) (av _ b 2 y2)
theorem Du {b u0 u1 u2:Value} {b3:Nat} (hB:Bw w W) (ha:aK W w.heap.size [a,b,c]) (hr:aK W (w.heap.size+1) [.slice none 0 0,.slice none 0 0,.slice none 0 0]) (hn:cL W b3 u0 u1 u2) (hb3:w.heap.size+2≤b3)
 (hx:W.ownsRow (w.heap.size+2) 3 1 x ks.length (bw ks)) (hy:W.ownsRow (w.heap.size+2) 3 1 y vs.length (bw vs)) (bx:∀i∈ks,aQ i) (bv:∀i∈vs,aQ i) (hab:eo x y) :
 Bb w a b c ks vs kids 0 b3 x y (.slice none 0 0) (((W.setCell ⟨b3,0,none⟩ x).setCell ⟨b3,1,none⟩ y).setCell ⟨b3,2,none⟩ (.slice none 0 0)):=by
 have hg:=o8 W b3 x y (.slice none 0 0);have nx:=Ya hn hx (by decide);have ny:=Ya hn hy (by decide);have hx2:=hx.kept hg (.inr nx);have Nw:=hy.kept hg (.inr ny);refine ⟨((hn.qw x).zw y).yt _,ha.afJ (by omega) _ _ _,hr.afJ (by omega) _ _ _,hb3,?_,tQ hB (by omega) _ _ _⟩;rw[List.take_zero];exact fR.leaf (bz dO hx2) (bz dO Nw) bx bv hab (fun g e=>⟨(hx2.lt g e).1,(hx2.lt g e).2,fun h=>nx (by rw[e,h])⟩) (fun g e=>⟨(Nw.lt g e).1,(Nw.lt g e).2,fun h=>ny (by rw[e,h])⟩)
theorem Pp {b:Value} (hB:Bw w W) (ha:aK W w.heap.size [a,b,c]) (hr:aK W (w.heap.size+1) [.slice none 0 0,.slice none 0 0,.slice none 0 0])
 (hx:W.ownsRow (w.heap.size+2) 3 1 x ks.length (bw ks)) (hy:W.ownsRow (w.heap.size+2) 3 1 y vs.length (bw vs)) (bx:∀i∈ks,aQ i) (bv:∀i∈vs,aQ i) (hab:eo x y) :
 Bb w a b c ks vs kids 0 W.heap.size x y (.slice none 0 0) (W.alloc (.cells #[x,y,.slice none 0 0] 73)):=by
 have hx2:=hx.alloc (.cells #[x,y,.slice none 0 0] 73);have Nw:=hy.alloc (.cells #[x,y,.slice none 0 0] 73);have hl:=hr.lt;refine ⟨cL.new _ _ _ _,ha.alloc _,hr.alloc _,by omega,?_,hB.alloc hB.size _⟩;rw[List.take_zero];exact fR.leaf (bz dO hx2) (bz dO Nw) bx bv hab (fun g e=>⟨(hx2.lt g e).1,(hx2.lt g e).2,by have:=(hx.lt g e).2;omega⟩) (fun g e=>⟨(Nw.lt g e).1,(Nw.lt g e).2,by have:=(hy.lt g e).2;omega⟩)
theorem fR.slices {b:Value} (h:fR w F t a b c):∃pa na ca pb nb cb pc nc cc,a=.slice pa na ca∧b=.slice pb nb cb∧c=.slice pc nc cc:=by obtain ⟨h1,h2,h3⟩:=bA.1 h.read;obtain ⟨pa,ca,e1,_⟩:=h1;obtain ⟨pb,cb,e2,_⟩:=h2;obtain ⟨pc,cc,e3,_⟩:=h3;exact ⟨pa,_,ca,pb,_,cb,pc,_,cc,e1,e2,e3⟩
theorem Bb.push {wr W5:World} {b z:Value} {b3:Nat} {K:Nat→Prop} (h:Bb w a b c ks vs kids k b3 x y z wr) (hW:Bw wr W5) (aas:fR W5 K t (.slice pa na ca) (.slice pb nb cb) (.slice pc nc cc))
 (hK:∀q,K q→wr.heap.size≤q∧q<W5.heap.size) (ht:kids[k]?=some t) (hk:k≤1000000) :
 ∃g cap w2,(Builtin.append_ #[71,71] 71 #[z,.slice (some ⟨W5.heap.size,0,none⟩) 1 1]).run prog (W5.alloc (.cells #[.slice pa na ca,.slice pb nb cb,.slice pc nc cc] 73))=.ok (.slice (some ⟨g,0,none⟩) (k+1) cap) w2∧cL w2 b3 x y z ∧
  Bb w a b c ks vs kids (k+1) b3 x y (.slice (some ⟨g,0,none⟩) (k+1) cap) (w2.setCell ⟨b3,2,none⟩ (.slice (some ⟨g,0,none⟩) (k+1) cap)) ∧
  ∀q,wr.heap.size≤q→q<W5.heap.size→w2.heap[q]?=W5.heap[q]?∧(w2.setCell ⟨b3,2,none⟩ (.slice (some ⟨g,0,none⟩) (k+1) cap)).heap[q]?=W5.heap[q]?:=by
 have hlt:=(List.getElem?_eq_some_iff.1 ht).1;have hl:(kids.take k).length=k:=by rw[List.length_take];omega
 have ht5:=h.tree.kept (aS hW none) (fun q _ e=>by cases e);have hs5:=hW.size;have hb3:=h.box.lt;obtain ⟨xs,hrow,afK⟩:=ht5.push aas (fun q hq hf=>by have h1:=(hK q hq).1;have h2:=hf.2.1;omega) (fun q hq=>by
  rcases hq with hq|hq
  ·have:=hq.2.1;omega
  ·exact (hK q hq).2)
 rw[hl] at hrow;have hFz:∀g,z.ownBlock=some g→w.heap.size+2≤g∧g≠b3∧g<wr.heap.size:=by
  cases ht5 with
  |mk F ks vs kids' a b c xs G X ha hb hc ba bb fa fb fc hab hx hk hG JC=>exact fun g e=>⟨(fc g e).1,(fc g e).2.2,(fc g e).2.1⟩
 obtain ⟨g,cap,w2,h1,h2,hgr,kL⟩:=EU W5 0 k z xs (pa:=pa) (pb:=pb) (pc:=pc) (na:=na) (ca:=ca) (nb:=nb) (cb:=cb) (nc:=nc) (cc:=cc) hrow hk dO;have hG:W5.grownBy w2 z.ownBlock:=aW (World.grownBy_alloc W5 _ _) hgr;have hzb:some b3≠z.ownBlock:=fun e=>(hFz b3 e.symm).2.1 rfl;have b5:cL W5 b3 x y z:=h.box.below hW;have b2:cL w2 b3 x y z:=(hG.block b3 b5.lt hzb).trans b5;have Wu:=(av w2 b3 2 (.slice (some ⟨g,0,none⟩) (k+1) cap)).size;have hs2:=hG.size;have hg0:=(h2.lt g rfl).2;have hgb:w.heap.size+2≤g∧g≠b3:=by
  rcases kL with e|e
  ·exact ⟨(hFz g e.symm).1,(hFz g e.symm).2.1⟩
  ·simp only[Value.ownBlock,Option.some.injEq] at e
   have:=h.hb;omega
 refine ⟨g,cap,w2,h1,b2,⟨b2.yt _,?_,?_,h.hb,?_,?_⟩,fun q h1 h2=>?_⟩
 ·exact ((h.arg.below hW).grown hG (fun e=>by have h9:=hFz _ e.symm;omega)).far (by have:=h.hb;omega) _ _
 ·exact ((h.res.below hW).grown hG (fun e=>by have h9:=hFz _ e.symm;omega)).far (by have:=h.hb;omega) _ _
 ·have hq:=afK w2 (.slice (some ⟨g,0,none⟩) (k+1) cap) (FN w.heap.size b3 (w2.setCell ⟨b3,2,none⟩ (.slice (some ⟨g,0,none⟩) (k+1) cap)).heap.size) hG (by rw[hl];exact h2) (by
   rcases kL with e|e
   ·exact .inl e
   ·exact .inr ⟨_,e,by omega⟩) (fun q hq=>by
   unfold FN;rcases hq with hq|hq
   ·have h1:=hq.1;have h2:=hq.2.1;have h3:=hq.2.2;exact ⟨h1,by omega,h3⟩
   ·have h1:=hK q hq;have:=h.hb;exact ⟨by omega,by omega,by omega⟩) (fun q e=>by
   simp only[Value.ownBlock,Option.some.injEq] at e;subst e;exact ⟨hgb.1,by omega,hgb.2⟩)
  rw[List.take_add_one,ht,Option.toList_some];exact hq.kept (av w2 b3 2 _) (fun q hq e=>hq.2.2 (Option.some.inj e).symm)
 ·have aR:Bw w W5:=ak h.below hW
  have hb2:Bw w w2:=aR.grown hG (by have:=aR.size;omega) (fun q e=>by have:=hFz q e;omega);exact hb2.setCell (p:=⟨b3,2,none⟩) (by show w.heap.size≤b3;have:=h.hb;omega) _
 ·have e1:=hG.block q h2 (fun e=>by have:=(hFz q e.symm).2.2;omega)
  exact ⟨e1,((av w2 b3 2 _).block q (by omega) (fun e=>by have:=Option.some.inj e;omega)).trans e1⟩
theorem Bc {low:Int} (h:bE t low=true):t.keys.length≤4∧t.vals.length≤4∧t.kids.length≤4∧∀k∈t.kids,bE k 2=true:=by
 cases t with
 |mk ks vs kids=>
  simp only[bE,Bool.and_eq_true,decide_eq_true_eq] at h;simp only[ag.keys,ag.vals,ag.kids];obtain ⟨⟨h1,h2⟩,h3⟩:=h;by_cases e:kids.length=0
  ·rw[if_pos e] at h3
   have:=of_decide_eq_true h3;exact ⟨h2,by omega,by omega,fun k hk=>by rw[List.eq_nil_of_length_eq_zero e] at hk;simp at hk⟩
  ·rw[if_neg e,Bool.and_eq_true,decide_eq_true_eq] at h3
   obtain ⟨⟨h4,h5,h6⟩,h7⟩:=h3;refine ⟨h2,by omega,by omega,fun k hk=>?_⟩;obtain ⟨j,hj⟩:=List.mem_iff_getElem?.1 hk;exact ((eT _ _).1 h7 j k hj).1
theorem IL {l:List Int} (h:fA w v l):∃p c,v=.slice p l.length c∧(∀x∈l,aQ x)∧iK w p l.length 1 (bw l):=by
 obtain ⟨p,c,h1,h2,h3,h4⟩:=h;refine ⟨p,c,h1,fun x hx=>?_,by unfold bw;simp,fun hp=>?_,fun u hu=>?_,fun ad had j u hj=>?_⟩
 ·obtain ⟨i,hi⟩:=List.mem_iff_getElem?.1 hx
  exact (h4 i x hi).1
 ·cases l with
  |nil=>rfl
  |cons x l=>obtain ⟨_,g,o,e,_⟩:=h4 0 x rfl;rw[hp] at e;cases e
 ·unfold bw at hu
  obtain ⟨x,_,rfl⟩:=List.mem_map.1 hu;rfl
 ·unfold bw at hj
  rw[List.getElem?_map] at hj;cases hx:l[j]? with
  |none=>rw[hx] at hj;cases hj
  |some x=>rw[hx] at hj;cases hj;obtain ⟨_,g,o,e,hc⟩:=h4 j x hx;rw[had] at e;injection e with e;subst e;rw[nA];exact hc
def aaz (w:World) (t:ag) (e:Ending) (w':World):Prop:=∃x y z,e=.returned (.agg #[x,y,z])∧fR w' (fun q=>w.heap.size≤q∧q<w'.heap.size) t x y z∧Bw w w'
theorem pJ (h:aK W b [a0,a1,a2]):W.cell? ⟨b,0,none⟩=some a0∧W.cell? ⟨b,1,none⟩=some a1:=⟨h.cell rfl,h.cell rfl⟩
theorem mI (h:aK W b [a0,a1,a2]):W.cell? ⟨b,0,none⟩=some a0∧W.cell? ⟨b,1,none⟩=some a1∧W.cell? ⟨b,2,none⟩=some a2:=⟨h.cell rfl,h.cell rfl,h.cell rfl⟩
theorem IM (t:ag):∀(a b c:Value) (low:Int) (w:World),bn w t a b c→bE t low=true→Calls prog 71 #[.agg #[a,b,c]] w (aaz w t):=by
 induction t using ag.ind with
 |h ks vs kids ih=>
  intro a b c low w hn hs;obtain ⟨l1,l2,l3,l4⟩:=Bc hs;have zh:=aa (fun t ht a b c W hn=>ih t ht a b c 2 W hn (l4 t ht));clear ih l4 hs;obtain ⟨ha,hb,pc,cc,rfl,c1,c2,hk⟩:=bA.1 hn;obtain ⟨pa,ca,rfl,ba,sa⟩:=IL ha;obtain ⟨pb,cb,rfl,bb,sb⟩:=IL hb;simp only[ag.keys,ag.vals,ag.kids] at l1 l2 l3 c1 c2 hk ba bb sa sb ⊢;have OV:=aa (fun W (h:Bw w W)=>yb pa ks.length ca _ W (sa.stays h) (by omega));have Fj:=aa (fun W (h:Bw w W)=>yb pb vs.length cb _ W (sb.stays h) (by omega));have HK:=aa hk;have yq:=aa ba;have jl:=aa bb;clear hk ha hb hn sa sb ba bb;obtain ⟨nk,hK⟩:=aG ks.length;obtain ⟨nv,hM⟩:=aG vs.length;obtain ⟨N,hN⟩:=aG kids.length;have vn:=aa hK;have pY:=aa hM;have ll:=aa hN;rw[hK] at OV ⊢;rw[hM] at Fj ⊢;rw[hN] at c1 l3 ⊢;have hlc:(N:Int)≤9223372036854775807:=by omega
  clear hK hM hN l1 l2 c1 c2;obtain ⟨W1,hW1⟩:=aG ((w.alloc (.cells #[.slice pa nk ca,.slice pb nv cb,.slice pc N cc] 73)).alloc (.cells #[.slice none 0 0,.slice none 0 0,.slice none 0 0] 73));have aU:=aa (yH w [.slice pa nk ca,.slice pb nv cb,.slice pc N cc] [.slice none 0 0,.slice none 0 0,.slice none 0 0] 73 73);rw[hW1] at aU;have ee:=aa hW1;clear hW1;go_enter func71,ntmps71;go_upto_region 1 with fail;rw[ee.o];clear ee;go_cut [3] from 6 to 12 (fun v3 wx=>∃b3 x y,v3=.pointer (some ⟨b3,0,none⟩)∧Bb w (.slice pa nk ca) (.slice pb nv cb) (.slice pc N cc) ks vs kids 0 b3 x y (.slice none 0 0) wx)
  case first=>
   have sB:=aa aU.1.drew;have HRX:=aa aU.2.1.drew;have uq:=aa aU.2.2.drew;have Wu:w.heap.size+2≤W1.drew.heap.size:=HRX.lt;have Vv:=aa Wu;have sX:=aa (OV.o _ uq);refine wp_region_held_drew (S:=fun w'=>w'.cell? ⟨w.heap.size,0,none⟩=some (.slice pa nk ca)∧w'.cell? ⟨w.heap.size,1,none⟩=some (.slice pb nv cb)) (by kernel_rfl) (pJ sB) (fun hHeld=>?_);refine cB 0 6 (.pointer (some ⟨w.heap.size,0,none⟩)) rfl rfl hHeld ?_;simp only[aD];refine cB 1 7 (.slice pa nk ca) rfl rfl hHeld ?_;simp only[aD];refine cB 3 9 (.pointer (some ⟨w.heap.size,1,none⟩)) rfl rfl hHeld ?_;simp only[aD];refine cB 4 10 (.slice pb nv cb) rfl rfl hHeld ?_;simp only[aD];clear Wu;refine wpAnyH_ready (rs:=[2,7]) (by kernel_rfl) (by simp) ?_;refine AllReadyH.cons rfl (fun K hK=>?_) (AllReadyH.cons rfl (fun K hK=>?_) AllReadyH.nil)
   ·go_simp
    refine sX.o.mono ?_;rintro e w2 ⟨v2,rfl,ho,hb⟩;obtain ⟨p2,c2,rfl⟩:=ez ho;have bS:=bh uq hb;have dV:=aa (sB.o.below hb);have jO:=aa (HRX.o.below hb);have nD:=aa (bz Vv.o ho);clear ho hb;refine hK.out _ _ (pJ dV.o) (fun hHeld=>?_);clear hK K;refine wpAnyH_ready (rs:=[5,7]) (by kernel_rfl) (by simp) ?_;refine AllReadyH.cons rfl (fun K hK=>?_) (AllReadyH.cons rfl (fun K hK=>?_) AllReadyH.nil)
    ·go_simp
     refine (Fj.o _ bS.o).mono ?_;rintro e w3 ⟨v3,rfl,ho,hb⟩;obtain ⟨p3,c3,rfl⟩:=ez ho;have dF:=bh bS hb;have kD:=aa (dV.o.below hb);have vZ:=aa (jO.o.below hb);have HAP:=aa (qW nD.o ho aT);have qi:=aa (bz (Nat.le_trans jO.o.lt aT) ho);have xO:=aa (aL nD.o hb);clear ho hb;refine hK.out _ _ (pJ kD.o) (fun hHeld=>?_);clear hK K;refine cB 6 12 (.agg #[.slice p2 nk c2,.slice p3 nv c3,.slice none 0 0]) rfl rfl hHeld ?_;simp only[aD];refine kh 7 rfl (fun K hK=>?_);go_simp;refine hK.out _ _ (pJ (kD.o.alloc _)) (fun hHeld=>?_);clear hK K;have Hg:=aa (cL.new w3 (.slice none 0 0) (.slice none 0 0) (.slice none 0 0));have HE:=aa (Pp (kids:=kids) dF.o kD.o vZ.o (by rw[vn.o];exact xO.o) (by rw[pY.o];exact qi.o) yq.o jl.o HAP.o);refine kh 8 rfl (fun K hK=>?_);go_simp;refine hK.out _ _ (pJ HE.o.arg) (fun hHeld=>?_);clear hK K hHeld;refine wpAnyH_done (by kernel_rfl) ?_ _;go_wp2_with fail;go_meet;exact ⟨_,_,_,rfl,HE.o⟩
    ·go_simp
     have Wq:=aa (cL.new w2 (.slice none 0 0) (.slice none 0 0) (.slice none 0 0));have BV:=aa (dV.o.alloc (.cells #[.slice none 0 0,.slice none 0 0,.slice none 0 0] 73));have akW:=aa (jO.o.alloc (.cells #[.slice none 0 0,.slice none 0 0,.slice none 0 0] 73));have Av:=aa (bS.o.alloc bS.o.size (.cells #[.slice none 0 0,.slice none 0 0,.slice none 0 0] 73));refine hK.out _ _ (pJ BV.o) (fun hHeld=>?_);clear hK K;refine kh 5 rfl (fun K hK=>?_);go_simp;refine (Fj.o _ Av.o).mono ?_;rintro e w3 ⟨v3,rfl,ho,hb⟩;obtain ⟨p3,c3,rfl⟩:=ez ho;have dF:=aa (ak Av.o hb);have kD:=aa (BV.o.below hb);have vZ:=aa (akW.o.below hb);have HAP:=aa (qW nD.o ho (by simp));have qi:=aa (bz (Nat.le_trans jO.o.lt (by simp)) ho);have xO:=aa (aL (nD.o.alloc _) hb);have Hg:=aa (Wq.o.below hb);clear ho hb;refine hK.out _ _ (pJ kD.o) (fun hHeld=>?_);clear hK K;refine cB 6 12 (.agg #[.slice p2 nk c2,.slice p3 nv c3,.slice none 0 0]) rfl rfl hHeld ?_;simp only[aD];obtain ⟨n0,n1,n2⟩:=Hg.o.cells;have f0:=Hg.o.frozen 0;have f1:=Hg.o.frozen 1;have f2:=Hg.o.frozen 2;have HE:=aa (Du (kids:=kids) dF.o kD.o vZ.o Hg.o jO.o.lt (by rw[vn.o];exact xO.o) (by rw[pY.o];exact qi.o) yq.o jl.o HAP.o);refine kh 8 rfl (fun K hK=>?_);go_simp;refine hK.out _ _ (pJ HE.o.arg) (fun hHeld=>?_);clear hK K n0 n1 n2 f0 f1 f2 hHeld;refine wpAnyH_done (by kernel_rfl) ?_ _;go_wp2_with fail;go_meet;exact ⟨_,_,_,rfl,HE.o⟩
   ·go_simp
    have HN1:=aa (show cL _ W1.heap.size _ _ _ from cL.new W1.drew (.slice none 0 0) (.slice none 0 0) (.slice none 0 0));have afM:=aa (sB.o.alloc (.cells #[.slice none 0 0,.slice none 0 0,.slice none 0 0] 73));have akX:=aa (HRX.o.alloc (.cells #[.slice none 0 0,.slice none 0 0,.slice none 0 0] 73));have afN:=aa (uq.o.alloc uq.o.size (.cells #[.slice none 0 0,.slice none 0 0,.slice none 0 0] 73));refine hK.out _ _ (pJ afM.o) (fun hHeld=>?_);clear hK K;refine kh 2 rfl (fun K hK=>?_);go_simp;refine (OV.o _ afN.o).mono ?_;rintro e w2 ⟨v2,rfl,ho,hb⟩;obtain ⟨p2,c2,rfl⟩:=ez ho;have bS:=aa (ak afN.o hb);have dV:=aa (afM.o.below hb);have jO:=aa (akX.o.below hb);have Wq:=aa (HN1.o.below hb);have nD:=aa (bz (Nat.le_trans Vv.o (by simp)) ho);clear ho hb;refine hK.out _ _ (pJ dV.o) (fun hHeld=>?_);clear hK K;refine kh 5 rfl (fun K hK=>?_);go_simp;refine (Fj.o _ bS.o).mono ?_;rintro e w3 ⟨v3,rfl,ho,hb⟩;obtain ⟨p3,c3,rfl⟩:=ez ho;have dF:=bh bS hb;have kD:=aa (dV.o.below hb);have vZ:=aa (jO.o.below hb);have HAP:=aa (qW nD.o ho aT);have qi:=aa (bz (Nat.le_trans jO.o.lt aT) ho);have xO:=aa (aL nD.o hb);have Hg:=aa (Wq.o.below hb);clear ho hb;refine hK.out _ _ (pJ kD.o) (fun hHeld=>?_);clear hK K;refine cB 6 12 (.agg #[.slice p2 nk c2,.slice p3 nv c3,.slice none 0 0]) rfl rfl hHeld ?_;simp only[aD];obtain ⟨n0,n1,n2⟩:=Hg.o.cells;have f0:=Hg.o.frozen 0;have f1:=Hg.o.frozen 1;have f2:=Hg.o.frozen 2;have HE:=aa (Du (kids:=kids) dF.o kD.o vZ.o Hg.o Vv.o (by rw[vn.o];exact xO.o) (by rw[pY.o];exact qi.o) yq.o jl.o HAP.o);refine kh 8 rfl (fun K hK=>?_);go_simp;refine hK.out _ _ (pJ HE.o.arg) (fun hHeld=>?_);clear hK K n0 n1 n2 f0 f1 f2 hHeld;refine wpAnyH_done (by kernel_rfl) ?_ _;go_wp2_with fail;go_meet;exact ⟨_,_,_,rfl,HE.o⟩
  case rest=>
   obtain ⟨b3,x,y,rfl,hr⟩:=hcut;obtain ⟨px,mx,cx,py,my,cy,_,_,_,rfl,rfl,_⟩:=hr.tree.slices;have HR:=aa hr;have a2:=hr.arg.cell (j:=2) rfl;clear hr;go_wp2_with fail;clear a2;go_loopw [16,5] (fun i _ wr=>∃(k:Nat) (z:Value),k≤N∧i=.int .i64 k∧Bb w (.slice pa nk ca) (.slice pb nv cb) (.slice pc N cc) ks vs kids k b3 (.slice px mx cx) (.slice py my cy) z wr) (fun i _ _=>N-(intOf i).toNat)
   case atStart=>exact ⟨0,_,dO,rfl,HR⟩
   case round=>
    obtain ⟨k,z,hk,rfl,FV⟩:=hrel;have uC:=aa FV;clear FV;by_cases hlt:k<N
    case neg=>
     obtain rfl:k=N:=by omega
     obtain ⟨_,_,_,_,_,_,pz,mz,cz,_,_,rfl⟩:=uC.tree.slices;obtain ⟨n0,n1,n2⟩:=uC.box.cells;have r0:=uC.res.cell (j:=0) rfl;have r1:=uC.res.cell (j:=1) rfl;have r2:=uC.res.cell (j:=2) rfl;obtain ⟨f0,f1,f2⟩:=uC.res.R4;go_wp2_with fail;have HZ:=aa (((uC.res.set 0 (.slice px mx cx)).set 1 (.slice py my cy)).set 2 (.slice pz mz cz));simp only[List.set_cons_zero,List.set_cons_succ] at HZ;have g0:=HZ.cell (j:=0) rfl;have g1:=HZ.cell (j:=1) rfl;have g2:=HZ.cell (j:=2) rfl;have hsz:=(o8 wr (w.heap.size+1) (.slice px mx cx) (.slice py my cy) (.slice pz mz cz)).size;have ht:=uC.tree;rw[List.take_of_length_le (by rw[ll.o];exact aT)] at ht;refine au (v:=.agg #[.slice px mx cx,.slice py my cy,.slice pz mz cz]) ⟨_,_,_,rfl,(ht.kept (o8 wr (w.heap.size+1) _ _ _) (fun q hq e=>by have h1:=hq.1;have:=Option.some.inj e;omega)).mono (fun q hq=>by have h1:=hq.1;have h2:=hq.2.1;exact ⟨by omega,by omega⟩),tQ uC.below (by omega) _ _ _⟩ ?_;simp[results,results71,go_sem,g0,g1,g2]
    case pos=>
     have fN:(k:Int)<(N:Int):=(by omega);obtain ⟨t,ht⟩:=fx (l:=kids) (k:=k) (by rw[ll.o];exact hlt);obtain ⟨g,o,tx,ty,tz,rfl,k0,k1,k2,hn⟩:=HK.o k t ht;obtain ⟨qa,na,ka,qb,nb,kb,qc,nc,kc,rfl,rfl,rfl⟩:=aZ hn;have q0:=ae uC.below k0;have q1:=ae uC.below k1;have q2:=ae uC.below k2;have HN:=aa (hn.keep (af uC.below));have HT:=aa ht;clear hn k0 k1 k2 ht;go_upto_region 5 with fail;have jK:=aa (aK.new wr [.slice qa na ka,.slice qb nb kb,.slice qc nc kc] 73);have fW:=aa (show Bw wr (wr.alloc (.cells #[.slice qa na ka,.slice qb nb kb,.slice qc nc kc] 73)) from ar);have UF:=aa (show (wr.alloc (.cells #[.slice qa na ka,.slice qb nb kb,.slice qc nc kc] 73)).heap.size=wr.heap.size+1 from World.size_alloc _ _);obtain ⟨W4,pT⟩:=aG (wr.alloc (.cells #[.slice qa na ka,.slice qb nb kb,.slice qc nc kc] 73));rw[show (wr.alloc (.cells [.slice qa na ka,.slice qb nb kb,.slice qc nc kc].toArray 73))=W4 from pT] at jK;rw[pT] at fW UF ⊢;have VQ:=aa jK.drew;have fJ:=aa fW.drew;have yu:=aa (HN.keep (af fJ));have HZD:=aa (uC.box.below fJ);clear pT q0 q1 q2 jK fW;refine wp_region_held_drew (S:=fun w'=>w'.cell? ⟨wr.heap.size,0,none⟩=some (.slice qa na ka)∧w'.cell? ⟨wr.heap.size,1,none⟩=some (.slice qb nb kb)∧w'.cell? ⟨wr.heap.size,2,none⟩=some (.slice qc nc kc)) (by kernel_rfl) (mI VQ) (fun hHeld=>?_);refine cB 0 20 (.pointer (some ⟨b3,2,none⟩)) rfl rfl hHeld ?_;simp only[aD];refine cB 2 22 (.agg #[.slice qa na ka,.slice qb nb kb,.slice qc nc kc]) rfl rfl hHeld ?_;simp only[aD];refine wpAnyH_ready (rs:=[1,3]) (by kernel_rfl) (by simp) ?_;refine AllReadyH.cons rfl (fun K hK=>?_) (AllReadyH.cons rfl (fun K hK=>?_) AllReadyH.nil)
     ·have z2:=HZD.cells.2.2
      go_simp;refine hK.out _ _ (mI VQ) (fun hHeld=>?_);clear hK K z2;refine kh 3 rfl (fun K hK=>?_);go_simp;refine (zh t (List.mem_of_getElem? HT) _ _ _ _ yu).mono ?_;rintro e w5 ⟨x5,y5,z5,rfl,ho,hb⟩;obtain ⟨ra,ma,ja,rb,mb,jb,rc,mc,jc,rfl,rfl,rfl⟩:=ho.slices;have aR:=ak fJ hb;obtain ⟨g9,c9,w9,hrun,fI,IP,Lg⟩:=uC.push aR ho (fun q hq=>⟨by have h1:=hq.1;have h2:=UF.o;show wr.heap.size≤q;have:W4.drew.heap.size=W4.heap.size:=rfl;omega,hq.2⟩) HT (by omega);have fK:=aa (VQ.below hb);have rQ:=aa (HZD.below hb);have NQ:=aa (show aK w9 wr.heap.size [.slice qa na ka,.slice qb nb kb,.slice qc nc kc] by obtain ⟨T,h⟩:=fK.o;exact ⟨T,(Lg _ aT fK.lt).1.trans h⟩);have HXE:=aa (show aK (w9.setCell ⟨b3,2,none⟩ (.slice (some ⟨g9,0,none⟩) (k+1) c9)) wr.heap.size [.slice qa na ka,.slice qb nb kb,.slice qc nc kc] by obtain ⟨T,h⟩:=fK.o;exact ⟨T,(Lg _ aT fK.lt).2.trans h⟩);have dJ:=aa hrun;have sB:=aa fI;have tK:=aa IP;clear ho hb aR hrun fI IP Lg;refine hK.out _ _ (mI fK) (fun hHeld=>?_);clear hK K;refine kh 4 rfl (fun K hK=>?_);go_simp;refine hK.out _ _ (mI (fK.alloc _)) (fun hHeld=>?_);clear hK K;refine kh 5 rfl (fun K hK=>?_);refine bD rfl _ _ _ rfl rfl rfl dJ ?_;refine hK.out _ _ (mI NQ) (fun hHeld=>?_);clear hK K;refine cB 6 26 (.pointer (some ⟨b3,2,none⟩)) rfl rfl hHeld ?_;simp only[Act.put,List.setIfInBounds_toArray];obtain ⟨_,_,d2⟩:=sB.cells;have f2:=sB.frozen 2;refine kh 7 rfl (fun K hK=>?_);go_simp;refine hK.out _ _ (mI HXE) (fun hHeld=>?_);clear hK K hHeld d2 f2;refine wpAnyH_done (by kernel_rfl) ?_ _;go_wp2_with fail;go_roundw
      case rel=>exact ⟨k+1,_,by omega,by go_num,tK.o⟩
      case measure=>simp[intOf];omega
     ·go_simp
      refine (zh.o t (List.mem_of_getElem? HT.o) _ _ _ _ yu.o).mono ?_;rintro e w5 ⟨x5,y5,z5,rfl,ho,hb⟩;obtain ⟨ra,ma,ja,rb,mb,jb,rc,mc,jc,rfl,rfl,rfl⟩:=ho.slices;have aR:=ak fJ.o hb;obtain ⟨g9,c9,w9,hrun,fI,IP,Lg⟩:=uC.o.push aR ho (fun q hq=>⟨by have h1:=hq.1;have h2:=UF.o;show wr.heap.size≤q;have:W4.drew.heap.size=W4.heap.size:=rfl;omega,hq.2⟩) HT.o (by omega);have fK:=aa (VQ.o.below hb);have rQ:=aa (HZD.o.below hb);have NQ:=aa (show aK w9 wr.heap.size [.slice qa na ka,.slice qb nb kb,.slice qc nc kc] by obtain ⟨T,h⟩:=fK.o;exact ⟨T,(Lg _ aT fK.o.lt).1.trans h⟩);have HXE:=aa (show aK (w9.setCell ⟨b3,2,none⟩ (.slice (some ⟨g9,0,none⟩) (k+1) c9)) wr.heap.size [.slice qa na ka,.slice qb nb kb,.slice qc nc kc] by obtain ⟨T,h⟩:=fK.o;exact ⟨T,(Lg _ aT fK.o.lt).2.trans h⟩);have dJ:=aa hrun;have sB:=aa fI;have tK:=aa IP;clear ho hb aR hrun fI IP Lg;refine hK.out _ _ (mI fK.o) (fun hHeld=>?_);clear hK K;refine wpAnyH_ready (rs:=[1,4]) (by kernel_rfl) (by simp) ?_;refine AllReadyH.cons rfl (fun K hK=>?_) (AllReadyH.cons rfl (fun K hK=>?_) AllReadyH.nil)
      ·have z2:=rQ.o.cells.2.2
       go_simp;refine hK.out _ _ (mI fK.o) (fun hHeld=>?_);clear hK K z2;refine kh 4 rfl (fun K hK=>?_);go_simp;refine hK.out _ _ (mI (fK.o.alloc _)) (fun hHeld=>?_);clear hK K;refine kh 5 rfl (fun K hK=>?_);refine bD rfl _ _ _ rfl rfl rfl dJ.o ?_;refine hK.out _ _ (mI NQ.o) (fun hHeld=>?_);clear hK K;refine cB 6 26 (.pointer (some ⟨b3,2,none⟩)) rfl rfl hHeld ?_;simp only[Act.put,List.setIfInBounds_toArray];obtain ⟨_,_,d2⟩:=sB.o.cells;have f2:=sB.o.frozen 2;refine kh 7 rfl (fun K hK=>?_);go_simp;refine hK.out _ _ (mI HXE.o) (fun hHeld=>?_);clear hK K hHeld d2 f2;refine wpAnyH_done (by kernel_rfl) ?_ _;go_wp2_with fail;go_roundw
       case rel=>exact ⟨k+1,_,by omega,by go_num,tK.o⟩
       case measure=>simp[intOf];omega
      ·go_simp
       refine hK.out _ _ (mI (fK.o.alloc _)) (fun hHeld=>?_);clear hK K;refine kh 1 rfl (fun K hK=>?_);have z2:=(rQ.o.below (aH.alloc aT (.cells #[.slice ra ma ja,.slice rb mb jb,.slice rc mc jc] 73))).cells.2.2;go_simp;refine hK.out _ _ (mI (fK.o.alloc _)) (fun hHeld=>?_);clear hK K z2;refine kh 5 rfl (fun K hK=>?_);refine bD rfl _ _ _ rfl rfl rfl dJ.o ?_;refine hK.out _ _ (mI NQ.o) (fun hHeld=>?_);clear hK K;refine cB 6 26 (.pointer (some ⟨b3,2,none⟩)) rfl rfl hHeld ?_;simp only[Act.put,List.setIfInBounds_toArray];obtain ⟨_,_,d2⟩:=sB.o.cells;have f2:=sB.o.frozen 2;refine kh 7 rfl (fun K hK=>?_);go_simp;refine hK.out _ _ (mI HXE.o) (fun hHeld=>?_);clear hK K hHeld d2 f2;refine wpAnyH_done (by kernel_rfl) ?_ _;go_wp2_with fail;go_roundw
       case rel=>exact ⟨k+1,_,by omega,by go_num,tK.o⟩
       case measure=>simp[intOf];omega
theorem zb (x:aB):aQ (cD x):=by
 unfold cD;by_cases h:cO x=true
 ·rw[if_pos h]
  obtain ⟨h1,h2,h3,h4,h5,h6,h7⟩:=(bL x).1 h;have:=(iF h3 h4).1;unfold kr aQ;cases x.packed <;> simp <;> omega
 ·rw[if_neg h];unfold aQ;omega
theorem fR.akY {b:Value} (h:fR w F (.mk ks vs kids) a b c) {j:Nat} (ht:kids[j]?=some t):∃(K:Nat→Prop) (x y z:Value) (xs:List Value),w.ownsRow 0 73 3 c kids.length xs∧xs[j*3]?=some x∧xs[j*3+1]?=some y∧xs[j*3+2]?=some z∧fR w K t x y z∧(∀q,K q→F q∧c.ownBlock≠some q)∧∀(w':World) (t':ag),fR w' K t' x y z→(∀q,q<w.heap.size→¬K q→w'.heap[q]?=w.heap[q]?)→fR w' F (.mk ks vs (kids.set j t')) a b c:=by
 cases h with
 |mk F0 ks vs kids a b c xs G X ha hb hc ba bb fa fb fc hab hx hk hG JC=>
  have hj:=(List.getElem?_eq_some_iff.1 ht).1;obtain ⟨x1,x2,x3⟩:=hx j hj;refine ⟨G j,_,_,_,xs,hc,x1,x2,x3,hk j t ht,fun q hq=>⟨(hG j q hq).1,(hG j q hq).2.2.2⟩,fun w' t' hn hs=>?_⟩;refine .mk F ks vs (kids.set j t') a b c xs G X (fS ha fun g h hl=>hs g hl (fun hq=>(hG j g hq).2.1 h)) (fS hb fun g h hl=>hs g hl (fun hq=>(hG j g hq).2.2.1 h)) (by rw[List.length_set];exact fS hc fun g h hl=>hs g hl (fun hq=>(hG j g hq).2.2.2 h)) ba bb fa fb fc hab (fun i hi=>hx i (by rw[List.length_set] at hi;exact hi)) (fun i s hi=>?_) hG JC;by_cases e:j=i
  ·subst e
   rw[List.getElem?_set_self hj] at hi;cases hi;exact hn
  ·rw[List.getElem?_set_ne e] at hi
   exact (hk i s hi).same (fun q hq hl=>hs q hl (JC i j q (fun h=>e h.symm) hq))
theorem fR.rows {b:Value} (h:fR w F (.mk ks vs kids) a b c):w.ownsRow 0 3 1 b vs.length (bw vs)∧(∀x∈vs,aQ x)∧∀g,b.ownBlock=some g→F g:=by
 cases h with
 |mk F0 ks vs kids a b c xs G X ha hb hc ba bb fa fb fc hab hx hk hG JC=>exact ⟨hb,bb,fb⟩
theorem js.same {W':World} (h:js W b n f) (hs:W'.heap[b]?=W.heap[b]?):js W' b n f:=by obtain ⟨D,⟨es,clock,h1,h2⟩,h3⟩:=h;exact ⟨D,⟨es,clock,hs.trans h1,h2⟩,h3⟩
def wP (f:Int→Option aB) (vs:List Int) (k:Nat):List Int:=(vs.take k).map (ie f)++vs.drop k
theorem Bd (f:Int→Option aB) (vs:List Int) (k:Nat):(wP f vs k).length=vs.length:=by unfold wP;rw[List.length_append,List.length_map,List.length_take,List.length_drop];omega
theorem EW {v:Int} (h:vs[k]?=some v):(wP f vs k)[k]?=some v:=by have hk:=(List.getElem?_eq_some_iff.1 h).1;unfold wP;rw[List.getElem?_append_right (by rw[List.length_map,List.length_take];omega),List.length_map,List.length_take,Nat.min_eq_left (by omega),Nat.sub_self,List.getElem?_drop,Nat.add_zero];exact h
theorem Be {α:Type} (g:α→α) {l:List α} {v:α} (h:l[k]?=some v):(l.take (k+1)).map g++l.drop (k+1)=((l.take k).map g++l.drop k).set k (g v):=by have hk:=(List.getElem?_eq_some_iff.1 h).1;rw[List.drop_eq_getElem_cons hk,(List.getElem?_eq_some_iff.1 h).2,List.set_append_right _ _ (by rw[List.length_map,List.length_take];omega),List.length_map,List.length_take,Nat.min_eq_left (by omega),Nat.sub_self,List.set_cons_zero,List.take_add_one,h,Option.toList_some,List.map_append,List.append_assoc];rfl
theorem Dv {v:Int} (h:vs[k]?=some v):wP f vs (k+1)=(wP f vs k).set k (ie f v):=Be _ h
theorem Pq {v:Int} (h:vs[k]?=some v) (hf:f v=none):wP f vs (k+1)=wP f vs k:=by
 rw[Dv h,show ie f v=v by unfold ie;rw[hf]];have:=EW (f:=f) h;exact List.ext_getElem? fun i=>by
  by_cases e:k=i
  ·subst e
   rw[List.getElem?_set_self (List.getElem?_eq_some_iff.1 this).1];exact this.symm
  ·rw[List.getElem?_set_ne e]
def EX (f:Int→Option aB) (l:List ag) (k:Nat):List ag:=(l.take k).map (iX f)++l.drop k
theorem Tl (f:Int→Option aB) (l:List ag) (k:Nat):(EX f l k).length=l.length:=by unfold EX;rw[List.length_append,List.length_map,List.length_take,List.length_drop];omega
theorem Wy {l:List ag} {v:ag} (h:l[k]?=some v):(EX f l k)[k]?=some v:=by have hk:=(List.getElem?_eq_some_iff.1 h).1;unfold EX;rw[List.getElem?_append_right (by rw[List.length_map,List.length_take];omega),List.length_map,List.length_take,Nat.min_eq_left (by omega),Nat.sub_self,List.getElem?_drop,Nat.add_zero];exact h
theorem aaA {g o:Nat} {a3:Value} (h:W.cell? ⟨g,o+1,none⟩=some u) (h2:aK W b [a0,a1,a2,a3]):W.cell? ⟨g,o+1,none⟩=some u∧W.cell? ⟨b,0,none⟩=some a0∧W.cell? ⟨b,1,none⟩=some a1∧W.cell? ⟨b,2,none⟩=some a2∧W.cell? ⟨b,3,none⟩=some a3:=⟨h,h2.cell rfl,h2.cell rfl,h2.cell rfl,h2.cell rfl⟩
theorem Wz (t:ag):∀(F:Nat→Prop) (a b c:Value) (low:Int) (g o mb n:Nat) (f:Int→Option aB) (w:World),fR w F t a b c→bE t low=true→w.cell? ⟨g,o+1,none⟩=some b→w.cell? ⟨g,o+2,none⟩=some c→¬F g→¬F mb→js w mb n f →
 Calls prog 34 #[.pointer (some ⟨g,o,none⟩),.map (some mb)] w fun e w'=>e=.returned (.tuple #[])∧fR w' F (iX f t) a b c∧dn F w w':=by
 induction t using ag.ind with
 |h ks vs kids ih=>
  intro F a b c low g o mb n f w hn hs hcb hcc hFg hFm hm;obtain ⟨l1,l2,l3,l4⟩:=Bc hs;have zh:=aa (fun t ht K x y z g o w h1 h2 h3 h4 h5 h6=>ih t ht K x y z 2 g o mb n f w h1 (l4 t ht) h2 h3 h4 h5 h6);clear ih l4 hs;simp only[ag.keys,ag.vals,ag.kids] at l1 l2 l3;obtain ⟨M,hM⟩:=aG vs.length;obtain ⟨N,hN⟩:=aG kids.length;have pY:=aa hM;have ll:=aa hN;have HN:=aa hn;have HM:=aa hm;have xH:=aa (And.intro hFg hFm);have ZK:=aa (And.intro (World.block_lt_of_cell? _ _ hcb) hm.lt);have Fj:=aa hcb;have L9:=aa hcc;have hMl:(M:Int)≤4:=by omega
  have hNl:(N:Int)≤4:=by omega
  obtain ⟨pa,na,ca,pb,nb,cb,pc,nc,cc,rfl,rfl,rfl⟩:=hn.slices;obtain ⟨hnb,Uc⟩:nb=M∧nc=N:=by obtain ⟨_,⟨_,_,e2,_⟩,⟨_,_,e3,_⟩⟩:=bA.1 hn.read;injection e2 with _ e2 _;injection e3 with _ e3 _;exact ⟨e2.trans hM,e3.trans hN⟩
  subst hnb;subst Uc;clear hn hM hN hm hFg hFm l1 l2 l3 hcc;go_enter func34,ntmps34;go_wp2_with fail;clear hcb;go_loopw [14,4,5,6,7] (fun i _ _ _ _ wr=>∃k:Nat,k≤nb∧i=.int .i64 k∧fR wr F (.mk ks (wP f vs k) kids) (.slice pa na ca) (.slice pb nb cb) (.slice pc nc cc)∧dn F w wr) (fun i _ _ _ _ _=>nb-(intOf i).toNat)
  case atStart=>exact ⟨0,dO,rfl,HN,dn.eI aH⟩
  case round=>
   obtain ⟨k,hk,rfl,hr,hz⟩:=hrel;have HR:=aa hr;have HZ:=aa hz;clear hr hz;by_cases hlt:k<nb
   case neg=>
    obtain rfl:k=nb:=by omega
    have HV:=aa (show wP f vs k=vs.map (ie f) by
     unfold wP;rw[List.take_of_length_le (by rw[pY.o];exact aT),List.drop_of_length_le (by rw[pY.o];exact aT),List.append_nil])
    rw[HV.o] at HR;have vW:=(World.cell?_of_block (a:=⟨g,o+2,none⟩) (HZ.block g ZK.1 xH.1)).trans L9.o;go_wp2_with fail;clear vW;obtain ⟨wo,Qo⟩:∃wo,wo=wr:=⟨_,rfl⟩
    go_loopw [40,8] (fun i _ wr=>∃j:Nat,j≤nc∧i=.int .i64 j∧fR wr F (.mk ks (vs.map (ie f)) (EX f kids j)) (.slice pa na ca) (.slice pb k cb) (.slice pc nc cc)∧dn F w wr) (fun i _ _=>nc-(intOf i).toNat)
    case atStart=>exact ⟨0,dO,rfl,HR,HZ⟩
    case round=>
     obtain ⟨j,hj,rfl,hr,hz⟩:=hrel;have uC:=aa hr;have HZZ:=aa hz;clear hr hz;by_cases hlj:j<nc
     case neg=>
      obtain rfl:j=nc:=by omega
      have HW:=aa (show iX f (.mk ks vs kids)=.mk ks (vs.map (ie f)) (EX f kids j) by
       rw[iX,oB];unfold EX;rw[List.take_of_length_le (by rw[ll.o];exact aT),List.drop_of_length_le (by rw[ll.o];exact aT),List.append_nil])
      go_wp2_with fail;go_end0;exact ⟨rfl,by rw[HW.o];exact uC,HZZ⟩
     case pos=>
      have Gg:(j:Int)<(nc:Int):=(by omega);have Rz:(0:Int)≤(j:Int):=by omega
      obtain ⟨t,ht⟩:=fx (l:=kids) (k:=j) (by rw[ll.o];exact hlj);obtain ⟨K,x,y,z,xs,hrow,x1,x2,x3,G3,hkf,hback⟩:=uC.akY (Wy (f:=f) ht);rw[Tl,ll.o] at hrow;rcases aJ hrow with ⟨_,h2,_⟩|⟨gc,cap',h1⟩
      ·omega
      injection h1 with h1 _ h3;subst h1;subst h3;have Tm:∀i u,xs[i]?=some u→wr.cell? ⟨gc,i,none⟩=some u:=fun i u hi=>by obtain ⟨h6,h7⟩:=List.getElem?_eq_some_iff.1 hi;have:=bG hrow _ h6;rw[h7] at this;exact this
      have hgc:¬K gc:=fun h=>(hkf gc h).2 rfl;have HMR:=aa (HM.same (HZZ.block mb ZK.2 xH.2));have tk:=aa (zh.o t (List.mem_of_getElem? ht) K x y z gc (j*3) wr G3 (Tm _ _ x2) (Tm _ _ x3) hgc (fun h=>xH.2 (hkf mb h).1) HMR);have HKF:=aa hkf;have T9:=aa hback;have fX:=aa (show EX f kids (j+1)=(EX f kids j).set j (iX f t) from Be _ ht);have vW:=(World.cell?_of_block (a:=⟨g,o+2,none⟩) (HZZ.block g ZK.1 xH.1)).trans L9.o;clear hrow x1 x2 x3 G3 hkf hback Tm hgc ht;go_wp2_with (go_at_call 34;(refine tk.o.mono ?_);rintro e w5 ⟨rfl,hn5,hz5⟩;have XL:=aa hn5;have rQ:=aa hz5;clear hn5 hz5 vW);go_roundw
      case rel=>exact ⟨j+1,by omega,by go_num,by rw[fX.o];exact T9.o _ _ XL.o rQ.o.block,HZZ.o.trans (rQ.o.mono fun q hq=>(HKF.o q hq).1)⟩
      case measure=>simp[intOf];omega
   case pos=>
    have fN:(k:Int)<(nb:Int):=(by omega);have MQ:(0:Int)≤(k:Int):=by omega
    obtain ⟨v,hv⟩:=fx (l:=vs) (k:=k) (by rw[pY.o];exact hlt);obtain ⟨hrow,iL,hFb⟩:=HR.rows;have hvb:=iL v (List.mem_of_getElem? (EW (f:=f) hv));rw[Bd,pY.o] at hrow;rcases aJ hrow with ⟨_,h2,_⟩|⟨gb,cap',h1⟩
    ·omega
    injection h1 with h1 _ h3;subst h1;subst h3;have hiv:(bw (wP f vs k))[k]?=some (.int .i64 v):=by unfold bw;rw[List.getElem?_map,EW hv];rfl
    have kb:wr.cell? ⟨gb,k,none⟩=some (.int .i64 v):=by obtain ⟨h6,h7⟩:=List.getElem?_eq_some_iff.1 hiv;have:=bG hrow _ h6;rw[h7] at this;exact this
    have hMR:=HM.same (HZ.block mb ZK.2 xH.2);have hlk:=hMR.look hvb;have bU:=aa hrow;have fJ:=aa iL;have Z1:=aa (hFb gb rfl);have HV:=aa hv;clear hrow iL hFb hiv hvb hMR hv;cases hf:f v with
    |none=>
     rw[hf] at hlk;simp only[Option.getD_none,Option.isSome_none,aB.agg,aB.zero] at hlk;have HE:=aa (Pq HV hf);clear hf;go_wp2_with fail;go_roundw
     case rel=>have hb:Bw wr (wr.alloc (.cells #[.int .i64 0,.int .i64 0,.int .i64 0,.bool false] 50)):=ar;exact ⟨k+1,by omega,by go_num,by rw[HE.o];exact HR.o.kept (aS hb none) (fun q _ e=>by cases e),HZ.o.trans (dn.eI hb)⟩
     case measure=>simp[intOf];omega
    |some y=>
     obtain ⟨yc,yp,ys,yk⟩:=y;rw[hf] at hlk;simp only[Option.getD_some,Option.isSome_some,aB.agg] at hlk;have HE:=aa (Dv (f:=f) HV);have HNV:=aa (show ie f v=cD ⟨yc,yp,ys,yk⟩ by unfold ie;rw[hf]);have YM:=aa (zb ⟨yc,yp,ys,yk⟩);have yT:=aa (fun W=>uT ⟨yc,yp,ys,yk⟩ W);unfold aB.agg at yT;simp only at yT;have cU:=aa (show Bw wr (wr.alloc (.cells #[.int .i64 yc,.int .i64 yp,.int .i64 ys,.bool yk] 50)).drew from (ar).drew);have kS:=aa (show aK (wr.alloc (.cells #[.int .i64 yc,.int .i64 yp,.int .i64 ys,.bool yk] 50)).drew wr.heap.size [.int .i64 yc,.int .i64 yp,.int .i64 ys,.bool yk] from (aK.new wr [.int .i64 yc,.int .i64 yp,.int .i64 ys,.bool yk] 50).drew);have Mm:=aa (show wr.cell? ⟨g,o+1,none⟩=some (.slice (some ⟨gb,0,none⟩) nb cb) from (World.cell?_of_block (a:=⟨g,o+1,none⟩) (HZ.block g ZK.1 xH.1)).trans Fj);have gq:=aa (aaA (ae cU Mm) kS);clear hf;go_upto_region 5 with fail;go_region_held3 (fun w'=>w'.cell? ⟨g,o+1,none⟩=some (.slice (some ⟨gb,0,none⟩) nb cb)∧w'.cell? ⟨wr.heap.size,0,none⟩=some (.int .i64 yc)∧w'.cell? ⟨wr.heap.size,1,none⟩=some (.int .i64 yp)∧w'.cell? ⟨wr.heap.size,2,none⟩=some (.int .i64 ys)∧w'.cell? ⟨wr.heap.size,3,none⟩=some (.bool yk))
      (first|(with_reducible exact gq.o)|(with_reducible exact sj.o)|(with_reducible exact EG.o))
      (first|((with_reducible refine (yT.o _).mono ?_);rintro e w7 ⟨rfl,hb⟩;have fw:=bh cU hb;have sj:=aa (aaA (ae fw.o Mm.o) (kS.o.below hb));have kb7:=ae fw.o kb;have kf7:=gj (aL bU.o fw.o) k;have EG:=aa (show (w7.setCell ⟨gb,k,none⟩ (.int .i64 (cD ⟨yc,yp,ys,yk⟩))).cell? ⟨g,o+1,none⟩=some (.slice (some ⟨gb,0,none⟩) nb cb)∧(w7.setCell ⟨gb,k,none⟩ (.int .i64 (cD ⟨yc,yp,ys,yk⟩))).cell? ⟨wr.heap.size,0,none⟩=some (.int .i64 yc)∧(w7.setCell ⟨gb,k,none⟩ (.int .i64 (cD ⟨yc,yp,ys,yk⟩))).cell? ⟨wr.heap.size,1,none⟩=some (.int .i64 yp)∧(w7.setCell ⟨gb,k,none⟩ (.int .i64 (cD ⟨yc,yp,ys,yk⟩))).cell? ⟨wr.heap.size,2,none⟩=some (.int .i64 ys)∧(w7.setCell ⟨gb,k,none⟩ (.int .i64 (cD ⟨yc,yp,ys,yk⟩))).cell? ⟨wr.heap.size,3,none⟩=some (.bool yk) from aaA ((av w7 gb k _).cell sj.o.1 (fun e=>xH.o.1 (by rw[show g=gb from Option.some.inj e];exact Z1.o))) ((kS.o.below hb).far (by have:=(bU.o.lt gb rfl).2;omega) _ _));clear hb))
     clear kb;go_wp2_with fail;go_roundw
     case rel=>
      have Vw:=aL bU fw.o;have UX:(bw (wP f vs k)).length=nb:=by unfold bw;rw[List.length_map,Bd,pY.o]
      have XV:=lU Vw k (.int .i64 (cD ⟨yc,yp,ys,yk⟩)) (by rw[UX];exact hlt);have ho7:=HR.kept (aS fw none) (fun q _ e=>by cases e);refine ⟨k+1,by omega,by go_num,?_,(HZ.o.trans (dn.eI fw.o)).trans (dn.gB (av w7 gb k _) (fun r e=>by cases e;exact Z1.o))⟩;rw[HE.o,HNV.o];refine ho7.vals (by rw[List.length_set,Bd,pY.o,← rK];exact XV) (fun x hx=>?_) (fun q hq hne=>(av w7 gb k _).block q hq (fun e=>hne (by rw[Option.some.inj e];rfl)));rcases List.mem_or_eq_of_mem_set hx with h|h
      ·exact fJ x h
      ·rw[h];exact YM.o
     case measure=>simp[intOf];omega
def fF (w:World) (B:Nat) (F:Nat→Prop) (vv:Value) (l:List dx):Prop:=
 ∃(xs:List (dx×(Value×Value×Value))) (G:Nat→Nat→Prop),xs.map Prod.fst=l∧w.ownsRow B 75 5 vv l.length (fO xs) ∧
  (∀j x,xs[j]?=some x→aQ x.1.id∧aQ x.1.size∧fR w (G j) x.1.map x.2.1 x.2.2.1 x.2.2.2)∧(∀j q,G j q→F q∧vv.ownBlock≠some q)∧∀i j q,i≠j→G i q→¬G j q
theorem fF.kept {row:Option Nat} (h:fF w B F vv l) (hg:w.grownBy w' row) (hF:∀q,F q→row≠some q) (hv:vv.ownBlock=none∨vv.ownBlock≠row):fF w' B F vv l:=by obtain ⟨xs,G,h1,h2,h3,h4,h5⟩:=h;exact ⟨xs,G,h1,h2.kept hg hv,fun j x hx=>⟨(h3 j x hx).1,(h3 j x hx).2.1,(h3 j x hx).2.2.kept hg fun q hq=>hF q (h4 j q hq).1⟩,h4,h5⟩
theorem fF.low (h:fF w B F vv l) (hb:Bw w w'):fF w' B F vv l:=
 h.kept (aS hb none) (fun q _ e=>by cases e) (by
  cases e:vv.ownBlock with
  |none=>exact .inl rfl
  |some g=>exact .inr (by simp))
theorem fF.mono {B':Nat} {F':Nat→Prop} (h:fF w B F vv l) (hB:B'≤B) (hF:∀q,F q→F' q):fF w B' F' vv l:=by obtain ⟨xs,G,h1,h2,h3,h4,h5⟩:=h;exact ⟨xs,G,h1,bz hB h2,h3,fun j q hq=>⟨hF q (h4 j q hq).1,(h4 j q hq).2⟩,h5⟩
theorem afQ (W:World) (n:Nat) (hn:n≤1000):∃w1,(Instr.makeSlice 27 (.int .i64 0) (.int .i64 n)).run prog W=.ok (.slice (some ⟨W.heap.size,0,none⟩) 0 n) w1∧fF w1 W.heap.size (fun q=>W.heap.size≤q∧q<w1.heap.size∧q≠W.heap.size) (.slice (some ⟨W.heap.size,0,none⟩) 0 n) []∧Bw W w1:=by obtain ⟨i0,hi,hz0,hz1,hz2⟩:=info_parts QJ;obtain ⟨w1,jJ,hown,hg⟩:=run_make_own (P:=prog) W W.heap.size 27 75 i0 _ 5 underlying27 hi hz0 hz1 .i64 .i64 n (by rw[hz2];omega) (by unfold maxLen;omega) aT;exact ⟨w1,jJ,⟨[],fun _ _=>False,rfl,hown,fun j x hx=>by simp at hx,fun j q hq=>hq.elim,fun _ _ _ _ h=>h.elim⟩,aH.grown hg aT (fun k e=>by cases e)⟩
theorem fF.push {K:Nat→Prop} {d:dx} (h:fF w B F vv l) (hb:Bw w W) (hk:fR W K d.map (.slice pa na ca) (.slice pb nb cb) (.slice pc nc cc)) (hF:∀q,F q→q<w.heap.size) (hK:∀q,K q→w.heap.size≤q∧q<W.heap.size) (hi:aQ d.id) (hs:aQ d.size) (hn:l.length=n) (hn2:n≤1000) (hB:B≤w.heap.size) :
 ∃g cap w2,(Builtin.append_ #[27,27] 27 #[vv,.slice (some ⟨W.heap.size,0,none⟩) 1 1]).run prog (W.alloc (.cells #[.int .i64 d.id,.int .i64 d.size,.slice pa na ca,.slice pb nb cb,.slice pc nc cc] 75))=.ok (.slice (some ⟨g,0,none⟩) (n+1) cap) w2 ∧
  fF w2 B (fun q=>(F q∨w.heap.size≤q)∧q<w2.heap.size∧q≠g) (.slice (some ⟨g,0,none⟩) (n+1) cap) (l++[d])∧Below B W w2:=by
 have hsz:=hb.size;have h':=h.low hb;obtain ⟨xs,G,h1,h2,h3,h4,h5⟩:=h';obtain ⟨i0,iM,hz0,hz1,hz2⟩:=info_parts QJ;rw[hn] at h2;obtain ⟨g,cap,w2,hrun,hp⟩:=eV 27 75 i0 _ 5 88 underlying27 iM hz0 hz1 hz2 rfl (by decide) (by decide) W B n vv (fO xs) [.int .i64 d.id,.int .i64 d.size,.slice pa na ca,.slice pb nb cb,.slice pc nc cc] h2 rfl (by
  intro u hu;simp only[List.mem_cons,List.not_mem_nil,or_false] at hu;rcases hu with rfl|rfl|rfl|rfl|rfl <;> rfl) (by omega) (by omega)
 have hvW:∀q,vv.ownBlock=some q→q<w.heap.size:=fun q e=>by obtain ⟨_,_,_,hr,_⟩:=h;exact (hr.lt q e).2
 have hgs:=hp.grown.size;have hg2:=(hp.row.lt g rfl).2;have tZ:xs.length=n:=by rw[← hn,← h1,List.length_map]
 refine ⟨g,cap,w2,hrun,⟨xs++[(d,(.slice pa na ca,.slice pb nb cb,.slice pc nc cc))],fun j q=>if j=n then K q else G j q,by rw[List.map_append,h1];rfl,?_,fun j x hx=>?_,fun j q hq=>?_,fun i j q xz hi hj=>?_⟩,hp.below⟩
 ·rw[List.length_append,hn,ur];exact hp.row
 ·by_cases e:j<n
  ·rw[List.getElem?_append_left (by omega)] at hx
   simp only[if_neg (show ¬j=n by omega)];exact ⟨(h3 j x hx).1,(h3 j x hx).2.1,(h3 j x hx).2.2.kept hp.grown fun q hq=>(h4 j q hq).2⟩
  ·have hj:=(List.getElem?_eq_some_iff.1 hx).1
   rw[List.length_append] at hj;simp only[List.length_cons,List.length_nil] at hj;obtain rfl:j=n:=by omega
   rw[List.getElem?_append_right (by omega),tZ,Nat.sub_self] at hx;simp only[List.getElem?_cons_zero,Option.some.injEq] at hx;subst hx;simp only[if_true];exact ⟨hi,hs,hk.kept hp.grown fun q hq e=>by have:=hvW q e;have:=(hK q hq).1;omega⟩
 ·have hgq:(q<W.heap.size∧vv.ownBlock≠some q)→q≠g:=fun hq e=>by
   rcases hp.at_ with e2|e2
   ·exact hq.2 (by rw[← e2,e];rfl)
   ·omega
  dsimp only at hq
  by_cases e:j=n
  ·rw[if_pos e] at hq
   have h9:=hK q hq;have h10:=hgq ⟨h9.2,fun e=>by have:=hvW q e;omega⟩;exact ⟨⟨.inr h9.1,by omega,h10⟩,fun e=>h10 (Option.some.inj e).symm⟩
  ·rw[if_neg e] at hq
   have h9:=h4 j q hq;have h8:=hF q h9.1;have h10:=hgq ⟨by omega,h9.2⟩;exact ⟨⟨.inl h9.1,by omega,h10⟩,fun e=>h10 (Option.some.inj e).symm⟩
 ·dsimp only at hi hj
  by_cases e:i=n
  ·rw[if_pos e] at hi
   rw[if_neg (fun h=>xz (e.trans h.symm))] at hj;have:=hF q (h4 j q hj).1;have:=(hK q hi).1;omega
  ·rw[if_neg e] at hi
   by_cases e':j=n
   ·rw[if_pos e'] at hj
    have:=hF q (h4 i q hi).1;have:=(hK q hj).1;omega
   ·rw[if_neg e'] at hj
    exact h5 i j q xz hi hj
theorem fF.at {w:World} {B:Nat} {F:Nat→Prop} {vv:Value} {l:List dx} (h:fF w B F vv l):eQ w vv l:=by
 obtain ⟨xs,G,rfl,hown,hx,_⟩:=h;rw[List.length_map] at hown;rcases aJ hown with ⟨hv,hn,_⟩|⟨g,cap,hv⟩
 ·exact ⟨none,0,by rw[hv,List.length_map,hn],by rw[List.length_map];omega,by unfold maxLen;omega,fun i x hx=>by rw[List.eq_nil_of_length_eq_zero hn] at hx;simp at hx⟩
 ·subst hv
  obtain ⟨_,_,_,h3,h4,_⟩:=bl hown;refine ⟨_,cap,by rw[List.length_map],by rw[List.length_map];exact h3,h4,fun i d hd=>?_⟩;rw[List.getElem?_map] at hd;cases u9:xs[i]? with
  |none=>rw[u9] at hd;simp at hd
  |some x=>
   rw[u9] at hd;simp only[Option.map_some,Option.some.injEq] at hd;subst hd;obtain ⟨i1,i2,i3⟩:=hx i x u9;have hl:=mS xs;have hc:∀j u,(qu x.1 x.2)[j]?=some u→w.cell? ⟨g,0+i*5+j,none⟩=some u:=fun j u hj=>by have h6:=lq xs i x u9 j u hj;obtain ⟨h7,h8⟩:=List.getElem?_eq_some_iff.1 h6;rw[Nat.zero_add,bG hown (i*5+j) h7,h8]
   exact ⟨i1,i2,g,0,x.2.1,x.2.2.1,x.2.2.2,rfl,hc 0 _ rfl,hc 1 _ rfl,hc 2 _ rfl,hc 3 _ rfl,hc 4 _ rfl,i3.read.keep df⟩
structure yJ (w:World) (B T:Nat) (F:Nat→Prop) (p:cm) (v:PV):Prop where
 disk:bN (mask (fun q=>B≤q∧¬F q) w) p.disk v.k v.c v.p
 aw:fF w B F v.v p.aw
 tabs:∃g cap rs,v.t=.slice (some ⟨g,0,none⟩) p.tabs.length cap∧jG w T (.slice (some ⟨g,0,none⟩) p.tabs.length cap) p.tabs.length rs p.tabs
 bt:B≤T
 fl:∀q,F q→B≤q∧q<T
 sz:T≤w.heap.size
 bm:aQ p.met
 bg:aQ p.gen
 ba:aQ p.aF
theorem qX {a3 a4:Value} (h:aK W b [a0,a1,a2,a3,a4]):W.cell? ⟨b,0,none⟩=some a0∧W.cell? ⟨b,1,none⟩=some a1∧W.cell? ⟨b,2,none⟩=some a2∧W.cell? ⟨b,3,none⟩=some a3∧W.cell? ⟨b,4,none⟩=some a4:=h.five
theorem iB (W:World) (b:Nat) (y0 y1 y2 y3 y4 y5 y6 y7 y8 y9:Value):W.grownBy (cQ W b y0 y1 y2 y3 y4 y5 y6 y7 y8 y9) (some b):=by unfold cQ;exact aW (aW (aW (aW (aW (aW (aW (aW (aW (av _ _ _ _) (av _ _ _ _)) (av _ _ _ _)) (av _ _ _ _)) (av _ _ _ _)) (av _ _ _ _)) (av _ _ _ _)) (av _ _ _ _)) (av _ _ _ _)) (av _ _ _ _)
theorem IQ {rs:List vT} {x:List (List aj)} (h:jG w B v n rs x) (hg:w.grownBy w' (some b)) (hb:b<B):jG w' B v n rs x:=by
 have far:∀ {e:TypeId} {k m:Nat} {u:Value} {ys:List Value},w.ownsRow B e k u m ys→w'.ownsRow B e k u m ys:=fun hr=>hr.kept hg (by
  cases e:Value.ownBlock _ with
  |none=>exact .inl rfl
  |some g=>exact .inr (fun h=>by have:=(hr.lt g e).1;have:=Option.some.inj h;omega))
 exact ⟨h.1,far h.2.1,fun i s t hs ht=>far (h.2.2.1 i s t hs ht),h.2.2.2⟩
theorem IU {j:Nat} {rs:List vT} {x:List (List aj)} (h:jG w B v n rs x) (hb:b<B):jG (w.setCell ⟨b,j,none⟩ u) B v n rs x:=IQ h (av _ _ _ _) hb
theorem WB (p:cm) (v:PV) (w:World) (h:br w p v) (hm:cG p=true) (vh:p.disk.keep.length≤1000000):Calls prog 26 #[eY p v] w fun e w'=>∃v' T F,e=.returned (eY p v')∧yJ w' w.heap.size T F p v'∧Bw w w':=by
 obtain ⟨jJ,vV,⟨m1,m2⟩,_,_,_,WC⟩:=bO.1 hm;obtain ⟨⟨kl1,kl2,cl1,_⟩,_,_⟩:=(gu p.disk).1 jJ;have hlc:p.tabs.length≤1000:=by unfold cI at vV;simp only[Bool.and_eq_true,decide_eq_true_eq] at vV;exact vV.2.2
 have Yb:∀t∈p.tabs,t.length≤1000:=fun t ht=>by unfold cI at vV;simp only[Bool.and_eq_true,List.all_eq_true] at vV;have:=gP (vV.1 t ht);omega
 have hmv:dP p.aw=true:=by
  unfold bX at WC;by_cases e:1≤(p.tabs.length:Int)∧(p.tabs.length:Int)≤1000∧dP p.aw=true
  ·exact e.2.2
  ·rw[if_neg e] at WC;cases WC
 obtain ⟨hv1,_,hv3⟩:=dr.1 hmv;have aaC:=aa (fun d (hd:d∈p.aw)=>show bE d.map 0=true by
  have:=hv1 d hd;unfold cE jN at this;simp only[Bool.and_eq_true] at this;exact this.1.2.1.2)
 obtain ⟨pk,nk,ck,pc,nc,cc,pp,np,cp,pv,nv,cv,pt,nt,ct,rfl⟩:=h.sl;obtain ⟨GU,Mk,e1,_,_,_,hk⟩:=h.disk.kept.src jd uy (by decide);obtain ⟨TV,TW,e2,_,_,_,hc⟩:=h.disk.cache.src l6 uz (by decide);obtain ⟨pp',cp',e3,_,hp⟩:=h.disk.keep.src;simp only[Value.slice.injEq] at e1 e2 e3;obtain ⟨rfl,rfl,rfl⟩:=e1;obtain ⟨rfl,rfl,rfl⟩:=e2;obtain ⟨rfl,rfl,rfl⟩:=e3;have F3:=aa (fun W (hb:Bw w W)=>sL pk p.disk.kept.length ck _ W (hk.stays hb) (by omega));have L9:=aa (fun W (hb:Bw w W)=>sM pc p.disk.cache.length cc _ W (hc.stays hb) (by omega));have Ug:=aa (fun W (hb:Bw w W)=>qO pp p.disk.keep.length cp _ W (hp.stays hb) (by omega));have fJ:=aa h.disk.bd;have Jq:=aa (fun W (hb:Bw w W)=>Lh p.tabs _ W (h.tabs.keep (af hb)) hlc Yb);obtain ⟨vp',vc',ev,vl1,vl2,Vd⟩:=h.aw;simp only[Value.slice.injEq] at ev;obtain ⟨rfl,rfl,rfl⟩:=ev;have HVS:=aa Vd;have jl:=aa (And.intro h.bm (And.intro h.bg h.ba));clear h hk hc hp hm vh jJ vV hlc Yb hmv hv1 WC Vd kl1 kl2 cl1 vl1 m1 m2;obtain ⟨⟨kept,cache,ah,keep,dead⟩,met,gen,aF,aw,tabs⟩:=p;simp only at *;obtain ⟨KL,Z3⟩:∃n,kept.length=n:=⟨_,rfl⟩
 obtain ⟨CL,Z4⟩:∃n,cache.length=n:=⟨_,rfl⟩
 obtain ⟨PL,Um⟩:∃n,keep.length=n:=⟨_,rfl⟩
 obtain ⟨N,hN⟩:∃n,aw.length=n:=⟨_,rfl⟩
 rw[Z3] at F3;rw[Z4] at L9;rw[Um] at Ug;have vn:=aa Z3;have tk:=aa Z4;have nU:=aa Um;have ll:=aa hN;have aiV:N≤64:=by rw[← hN];exact hv3
 have XN:(N:Int)≤64:=by omega
 unfold eY;simp only;rw[Z3,Z4,Um,hN];clear Z3 Z4 Um hN hv3;obtain ⟨TL,hTL⟩:∃n,tabs.length=n:=⟨_,rfl⟩
 rw[hTL] at Jq;have Aq:=aa hTL;clear hTL;obtain ⟨W1,hW1⟩:=aG (((w.alloc (.cells #[.slice pk KL ck,.slice pc CL cc,.int .i64 ah,.slice pp PL cp,.bool dead,.int .i64 met,.int .i64 gen,.int .i64 aF,.slice pv N cv,.slice pt nt ct] 30)).alloc (.cells #[.slice none 0 0,.slice none 0 0,.int .i64 0,.slice none 0 0,.bool false,.int .i64 0,.int .i64 0,.int .i64 0,.slice none 0 0,.slice none 0 0] 30)).alloc (.cells #[.slice pk KL ck,.slice pc CL cc,.int .i64 ah,.slice pp PL cp,.bool dead] 26));have aU:=aa (NW w [.slice pk KL ck,.slice pc CL cc,.int .i64 ah,.slice pp PL cp,.bool dead,.int .i64 met,.int .i64 gen,.int .i64 aF,.slice pv N cv,.slice pt nt ct] [.slice none 0 0,.slice none 0 0,.int .i64 0,.slice none 0 0,.bool false,.int .i64 0,.int .i64 0,.int .i64 0,.slice none 0 0,.slice none 0 0] [.slice pk KL ck,.slice pc CL cc,.int .i64 ah,.slice pp PL cp,.bool dead] 30 30 26);rw[hW1] at aU;have JS:=aa (show W1.heap.size=w.heap.size+3 by rw[← hW1];simp);have ee:=aa hW1;clear hW1;go_enter func26,ntmps26;go_upto_region 2 with fail;rw[ee.o];clear ee;have VQ:=aa aU.1.drew;have HZD:=aa aU.2.1.drew;have M8:=aa aU.2.2.1.drew;have uq:=aa aU.2.2.2.drew;have hds:=qX M8.o;go_region_held3 (fun w'=>w'.cell? ⟨w.heap.size+1+1,0,none⟩=some (.slice pk KL ck)∧w'.cell? ⟨w.heap.size+1+1,1,none⟩=some (.slice pc CL cc)∧w'.cell? ⟨w.heap.size+1+1,2,none⟩=some (.int .i64 ah)∧w'.cell? ⟨w.heap.size+1+1,3,none⟩=some (.slice pp PL cp)∧w'.cell? ⟨w.heap.size+1+1,4,none⟩=some (.bool dead))
  (first|(with_reducible exact hds)|(with_reducible exact qX CD.o)|(with_reducible exact qX Uu.o)|(with_reducible exact qX HD4.o)|(with_reducible exact qX (HD4.o.yG (by omega) _ _ _ _ _)))
  (first|((with_reducible refine (F3.o _ uq.o).mono ?_);(rintro e w2 ⟨v2,rfl,ho,hb⟩);(obtain ⟨p2,c2,rfl⟩:=ez ho);(have nD:=aa ho);(have bS:=bh uq hb);(have dV:=aa (VQ.o.below hb));(have xN:=aa (HZD.o.below hb));(have CD:=aa (M8.o.below hb));(clear ho hb))|((with_reducible refine (L9.o _ bS.o).mono ?_);(rintro e w3 ⟨v3,rfl,ho,hb⟩);(obtain ⟨p3,c3,rfl⟩:=ez ho);(have qi:=aa ho);(have ak2:=aa (aL nD.o hb));(have dF:=bh bS hb);(have kD:=aa (dV.o.below hb));(have sq:=aa (xN.o.below hb));(have Uu:=aa (CD.o.below hb));(clear ho hb))|((with_reducible refine (Ug.o _ dF.o).mono ?_);(rintro e w4 ⟨v4,rfl,ho,hb⟩);(obtain ⟨p4,c4,rfl⟩:=ez ho);(have pG:=aa ho);(have ak3:=aa (aL qi.o hb));(have afR:=aa (aL ak2.o hb));(have fW:=bh dF hb);(have jK:=aa (kD.o.below hb));(have pS:=aa (sq.o.below hb));(have HD4:=aa (Uu.o.below hb));(have x0:=jK.o.cell (j:=0) rfl);(have x1:=jK.o.cell (j:=1) rfl);(have x2:=jK.o.cell (j:=2) rfl);(have x3:=jK.o.cell (j:=3) rfl);(have x4:=jK.o.cell (j:=4) rfl);(have f0:=jK.o.free 0);(have f1:=jK.o.free 1);(have f2:=jK.o.free 2);(have f3:=jK.o.free 3);(have f4:=jK.o.free 4);(clear ho hb)))
 obtain ⟨W5,Df⟩:=aG (((((w4.setCell ⟨w.heap.size,0,none⟩ (.slice p2 KL c2)).setCell ⟨w.heap.size,1,none⟩ (.slice p3 CL c3)).setCell ⟨w.heap.size,2,none⟩ (.int .i64 ah)).setCell ⟨w.heap.size,3,none⟩ (.slice p4 PL c4)).setCell ⟨w.heap.size,4,none⟩ (.bool dead));have fK:=aa (show aK W5 w.heap.size [.slice p2 KL c2,.slice p3 CL c3,.int .i64 ah,.slice p4 PL c4,.bool dead,.int .i64 met,.int .i64 gen,.int .i64 aF,.slice pv N cv,.slice pt nt ct] by rw[← Df];exact jK.mP _ _ _ _ _);have rQ:=aa (show aK W5 (w.heap.size+1) [.slice none 0 0,.slice none 0 0,.int .i64 0,.slice none 0 0,.bool false,.int .i64 0,.int .i64 0,.int .i64 0,.slice none 0 0,.slice none 0 0] by rw[← Df];exact pS.yG (by omega) _ _ _ _ _);have bp:=aa (show Bw w W5 by rw[← Df];exact cR fW aT _ _ _ _ _);have HDK:=aa (show cX W5 (w.heap.size+3) ⟨kept,cache,ah,keep,dead⟩ (.slice p2 KL c2) (.slice p3 CL c3) (.slice p4 PL c4) by
  have hs1:W1.drew.heap.size=w.heap.size+3:=JS.o;have hl2:w.heap.size+3≤w2.heap.size:=by have:=CD.lt;omega
  have BD:w.heap.size+3≤w3.heap.size:=by have:=Uu.lt;omega
  rw[← Df];refine (((((cX.bc ?_ (by omega)).bc (by omega)).bc (by omega)).bc (by omega)).bc (by omega));refine ⟨?_,?_,?_,fJ⟩
  ·have h:=afR.out;rw[hs1] at h;rw[vn.o];exact h
  ·rw[tk.o];exact bz hl2 ak3.o
  ·rw[nU.o];exact bz BD pG)
 have Ux:=aa (show w.heap.size+3≤W5.heap.size from (show aK W5 (w.heap.size+1+1) _ by rw[← Df];exact HD4.yG (by omega) _ _ _ _ _).lt);rw[Df];clear Df x0 x1 x2 x3 x4 f0 f1 f2 f3 f4 hds;have HDM:=aa (show bN (mask (fun q=>w.heap.size+3≤q∧q<W5.heap.size) W5) ⟨kept,cache,ah,keep,dead⟩ (.slice p2 KL c2) (.slice p3 CL c3) (.slice p4 PL c4) from (HDK.at (F:=fun q=>w.heap.size+3≤q) fun q h=>h).keeps (bF fun a u hf hu=>⟨⟨hf,World.block_lt_of_cell? _ _ hu⟩,hu⟩));obtain ⟨w6,jJ,afS,cV⟩:=afQ W5 N (by omega);have Zx:=aa afS;have cU:=aa cV;have x8:=fK.cell (j:=8) rfl;have y8:=ae cU x8;clear afS cV;go_wp2_with fail;clear jJ x8 y8;go_loopw [31,4,6] (fun i o _ wr=>∃(k gr co:Nat) (F:Nat→Prop),k≤N∧i=.int .i64 k∧o=.slice (some ⟨gr,0,none⟩) k co∧fF wr W5.heap.size F (.slice (some ⟨gr,0,none⟩) k co) (aw.take k)∧(∀q,F q→W5.heap.size≤q∧q<wr.heap.size)∧Bw W5 wr) (fun i _ _ _=>N-(intOf i).toNat)
 case atStart=>exact ⟨0,_,_,_,dO,rfl,rfl,Zx,fun q hq=>⟨hq.1,hq.2.1⟩,cU⟩
 case round=>
  obtain ⟨k,gr,co,F,hk,rfl,rfl,Vd,hfl,hb⟩:=hrel;have HV:=aa Vd;have HF:=aa hfl;have HB:=aa hb;have Qc:=aa (fK.below HB);have FC:=aa (rQ.below HB);clear Vd hfl hb;by_cases hlt:k<N
  case neg=>
   obtain rfl:k=N:=by omega
   have x8:=Qc.cell (j:=8) rfl;have f8:=Qc.free 8;go_upto_region 11 with fail;obtain ⟨W8,lK⟩:=aG (wr.setCell ⟨w.heap.size,8,none⟩ (.slice (some ⟨gr,0,none⟩) k co));have vS:=aa (show aK W8 w.heap.size [.slice p2 KL c2,.slice p3 CL c3,.int .i64 ah,.slice p4 PL c4,.bool dead,.int .i64 met,.int .i64 gen,.int .i64 aF,.slice (some ⟨gr,0,none⟩) k co,.slice pt nt ct] by rw[← lK];exact Qc.set 8 _);have tH:=aa (show aK W8 (w.heap.size+1) [.slice none 0 0,.slice none 0 0,.int .i64 0,.slice none 0 0,.bool false,.int .i64 0,.int .i64 0,.int .i64 0,.slice none 0 0,.slice none 0 0] by rw[← lK];exact FC.far (by omega) _ _);have gI:=aa (show Bw w W8 by rw[← lK];exact (ak bp HB).setCell (p:=⟨w.heap.size,8,none⟩) aT _);have XZ:=aa (show fF W8 W5.heap.size F (.slice (some ⟨gr,0,none⟩) k co) aw by
    rw[← lK];have h:=HV.o;rw[List.take_of_length_le (by rw[ll.o];exact aT)] at h;exact h.kept (av _ _ _ _) (fun q hq e=>by have:=(HF.o q hq).1;have:=Ux.o;have:=Option.some.inj e;omega) (.inr (fun e=>by
     obtain ⟨_,_,_,hr,_⟩:=HV.o;have h1:W5.heap.size≤gr:=(hr.lt gr rfl).1;have:=Ux.o;have h2:gr=_:=Option.some.inj e;omega)))
   have JD:=aa (show bN (mask (fun q=>w.heap.size+3≤q∧q<W5.heap.size) W8) ⟨kept,cache,ah,keep,dead⟩ (.slice p2 KL c2) (.slice p3 CL c3) (.slice p4 PL c4) by
    rw[← lK];exact (HDM.keeps (aC HB fun _ _ h=>h)).keeps (aM (b:=w.heap.size) (fun h=>by have:w.heap.size+3≤w.heap.size:=h.1;omega)))
   have CQ:=aa (show wr.heap.size≤W8.heap.size by rw[← lK];exact (av _ _ _ _).size);rw[lK];clear lK x8 f8;have x9:=vS.cell (j:=9) rfl;go_upto_region 12 with (go_at_call 72;(refine (Jq.o _ gI.o).mono ?_);rintro e w9 ⟨gt,Cb,rs,rfl,Mr,hb⟩;have HT9:=aa Mr;have ke:=bh gI hb;have NQ:=aa (vS.o.below hb);have ze:=aa (tH.o.below hb);have HV9:=aa (XZ.o.low hb);have JE:=aa (JD.o.keeps (aC hb fun _ _ h=>h));have EG:=aa hb.size;have y9:=NQ.o.cell (j:=9) rfl;have g9:=NQ.o.free 9;clear Mr hb);obtain ⟨WA,kK⟩:=aG (w9.setCell ⟨w.heap.size,9,none⟩ (.slice (some ⟨gt,0,none⟩) TL Cb));have ZU:=aa (show aK WA w.heap.size [.slice p2 KL c2,.slice p3 CL c3,.int .i64 ah,.slice p4 PL c4,.bool dead,.int .i64 met,.int .i64 gen,.int .i64 aF,.slice (some ⟨gr,0,none⟩) k co,.slice (some ⟨gt,0,none⟩) TL Cb] by rw[← kK];exact NQ.set 9 _);have WD:=aa (show aK WA (w.heap.size+1) [.slice none 0 0,.slice none 0 0,.int .i64 0,.slice none 0 0,.bool false,.int .i64 0,.int .i64 0,.int .i64 0,.slice none 0 0,.slice none 0 0] by rw[← kK];exact ze.far (by omega) _ _);have yq:=aa (show Bw w WA by rw[← kK];exact ke.setCell (p:=⟨w.heap.size,9,none⟩) aT _);have Q6:=aa (show w.heap.size+3≤W8.heap.size by have:=CQ.o;have:=Ux.o;have:=HB.size;omega);have HVA:=aa (show fF WA W5.heap.size F (.slice (some ⟨gr,0,none⟩) k co) aw by
    rw[← kK];exact HV9.kept (av _ _ _ _) (fun q hq e=>by have:=(HF.o q hq).1;have:=Ux.o;have:=Option.some.inj e;omega) (.inr (fun e=>by
     obtain ⟨_,_,_,hr,_⟩:=HV.o;have h1:W5.heap.size≤gr:=(hr.lt gr rfl).1;have:=Ux.o;have h2:gr=_:=Option.some.inj e;omega)))
   have VS:=aa (show bN (mask (fun q=>w.heap.size+3≤q∧q<W5.heap.size) WA) ⟨kept,cache,ah,keep,dead⟩ (.slice p2 KL c2) (.slice p3 CL c3) (.slice p4 PL c4) by
    rw[← kK];exact JE.keeps (aM (b:=w.heap.size) (fun h=>by have:w.heap.size+3≤w.heap.size:=h.1;omega)))
   have HTA:=aa (show jG WA W8.heap.size (.slice (some ⟨gt,0,none⟩) TL Cb) TL rs tabs by
    rw[← kK];exact IU HT9 (by have:=Q6.o;omega))
   have gq:=aa (show W8.heap.size≤WA.heap.size by rw[← kK];exact Nat.le_trans EG (av _ _ _ _).size);rw[kK];clear kK x9 y9 g9;obtain ⟨a0,a1,a2,a3,a4,a5,a6,a7,a8,a9⟩:=ZU.ten;obtain ⟨z0,z1,z2,z3,z4,z5,z6,z7,z8,z9⟩:=WD.ten;obtain ⟨f0,f1,f2,f3,f4,f5,f6,f7,f8,f9⟩:=WD.eP;go_wp2_with fail;have Wt:=aa (WD.cQ (.slice p2 KL c2) (.slice p3 CL c3) (.int .i64 ah) (.slice p4 PL c4) (.bool dead) (.int .i64 met) (.int .i64 gen) (.int .i64 aF) (.slice (some ⟨gr,0,none⟩) k co) (.slice (some ⟨gt,0,none⟩) TL Cb));have HME:=aa (VS.keeps (cS (b:=w.heap.size+1) (fun h=>by have:w.heap.size+3≤w.heap.size+1:=h.1;omega) (.slice p2 KL c2) (.slice p3 CL c3) (.int .i64 ah) (.slice p4 PL c4) (.bool dead) (.int .i64 met) (.int .i64 gen) (.int .i64 aF) (.slice (some ⟨gr,0,none⟩) k co) (.slice (some ⟨gt,0,none⟩) TL Cb)));have afT:=aa (dZ yq (b:=w.heap.size+1) (by omega) (.slice p2 KL c2) (.slice p3 CL c3) (.int .i64 ah) (.slice p4 PL c4) (.bool dead) (.int .i64 met) (.int .i64 gen) (.int .i64 aF) (.slice (some ⟨gr,0,none⟩) k co) (.slice (some ⟨gt,0,none⟩) TL Cb));have zy:=aa (iB WA (w.heap.size+1) (.slice p2 KL c2) (.slice p3 CL c3) (.int .i64 ah) (.slice p4 PL c4) (.bool dead) (.int .i64 met) (.int .i64 gen) (.int .i64 aF) (.slice (some ⟨gr,0,none⟩) k co) (.slice (some ⟨gt,0,none⟩) TL Cb));have hze:=Wt.o;unfold cQ at HME afT zy hze;obtain ⟨g0,g1,g2,g3,g4,g5,g6,g7,g8,g9⟩:=hze.ten;refine au (v:=.agg #[.slice p2 KL c2,.slice p3 CL c3,.int .i64 ah,.slice p4 PL c4,.bool dead,.int .i64 met,.int .i64 gen,.int .i64 aF,.slice (some ⟨gr,0,none⟩) k co,.slice (some ⟨gt,0,none⟩) TL Cb]) ⟨⟨.slice p2 KL c2,.slice p3 CL c3,.slice p4 PL c4,.slice (some ⟨gr,0,none⟩) k co,.slice (some ⟨gt,0,none⟩) TL Cb⟩,W8.heap.size,F,rfl,⟨?_,?_,?_,?_,?_,?_,jl.1,jl.2.1,jl.2.2⟩,afT⟩ ?_
   ·exact HME.keeps (aV fun q hq=>⟨by have:=hq.1;omega,fun h=>by have:=(HF.o q h).1;have:=hq.2;omega⟩)
   ·exact (HVA.kept zy (fun q hq e=>by have:=(HF.o q hq).1;have:=Ux.o;have:=Option.some.inj e;omega) (.inr (fun e=>by
     obtain ⟨_,_,_,hr,_⟩:=HV.o;have h1:W5.heap.size≤gr:=(hr.lt gr rfl).1;have:=Ux.o;have h2:gr=_:=Option.some.inj e;omega))).mono (by have:=Ux.o;omega) fun q h=>h
   ·exact ⟨gt,Cb,rs,by rw[Aq.o],by rw[Aq.o];exact IQ HTA zy (by have:=Q6.o;omega)⟩
   ·have:=Q6.o;omega
   ·intro q hq;have h9:=HF.o q hq;have:=Ux.o;have:=CQ.o;exact ⟨by omega,by omega⟩
   ·exact Nat.le_trans gq zy.size
   ·simp[results,results26,go_sem,g0,g1,g2,g3,g4,g5,g6,g7,g8,g9]
  case pos=>
   have fN:(k:Int)<(N:Int):=(by omega);obtain ⟨d,hd⟩:=fx (l:=aw) (k:=k) (by rw[ll.o];exact hlt);obtain ⟨OJ,pO,gv,ov,ta,tb,tc,rfl,k0,k1,k2,k3,k4,hn⟩:=HVS.o k d hd;obtain ⟨qa,na,ka,qb,nb,kb,qc,nc,kc,rfl,rfl,rfl⟩:=aZ hn;have hbr:=ak bp HB.o;have q0:=ae hbr k0;have q1:=ae hbr k1;have q2:=ae hbr k2;have q3:=ae hbr k3;have q4:=ae hbr k4;have HN:=aa (hn.keep (af hbr));have HD:=aa hd;have HI:=aa (And.intro OJ pO);have HSD:=aa (aaC.o d (List.mem_of_getElem? hd));clear hn k0 k1 k2 k3 k4 hd OJ pO hbr;go_upto_region 7 with fail;have kS:=aa (aK.new wr [.int .i64 d.id,.int .i64 d.size,.slice qa na ka,.slice qb nb kb,.slice qc nc kc] 75);have aaE:=aa (show Bw wr (wr.alloc (.cells #[.int .i64 d.id,.int .i64 d.size,.slice qa na ka,.slice qb nb kb,.slice qc nc kc] 75)) from ar);have Ff:=aa (show (wr.alloc (.cells #[.int .i64 d.id,.int .i64 d.size,.slice qa na ka,.slice qb nb kb,.slice qc nc kc] 75)).heap.size=wr.heap.size+1 from World.size_alloc _ _);obtain ⟨W6,rN⟩:=aG (wr.alloc (.cells #[.int .i64 d.id,.int .i64 d.size,.slice qa na ka,.slice qb nb kb,.slice qc nc kc] 75));rw[show wr.alloc (.cells [.int .i64 d.id,.int .i64 d.size,.slice qa na ka,.slice qb nb kb,.slice qc nc kc].toArray 75)=W6 from rN] at kS;rw[rN] at aaE Ff ⊢;have XM:=aa (HN.keep (af aaE));obtain ⟨b0,b1,b2,b3,b4⟩:=kS.five;clear rN q0 q1 q2 q3 q4;go_upto_region 8 with (go_at_call 71;(refine (IM d.map _ _ _ 0 _ XM.o HSD.o).mono ?_);rintro e w7 ⟨x7,y7,z7,rfl,ho,hb⟩;obtain ⟨ra,ma,ja,rb,mb,jb,rc,mc,jc,rfl,rfl,rfl⟩:=ho.slices;have pP:=aa ho;have fw:=aa (ak aaE.o hb);have lj:=aa (kS.o.below hb);have c2':=lj.o.cell (j:=2) rfl;have c3':=lj.o.cell (j:=3) rfl;have c4':=lj.o.cell (j:=4) rfl;have e2:=lj.o.free 2;have e3:=lj.o.free 3;have e4:=lj.o.free 4;clear ho hb b0 b1 b2 b3 b4);obtain ⟨W8,lK⟩:=aG (((w7.setCell ⟨wr.heap.size,2,none⟩ (.slice ra ma ja)).setCell ⟨wr.heap.size,3,none⟩ (.slice rb mb jb)).setCell ⟨wr.heap.size,4,none⟩ (.slice rc mc jc));have hg8:w7.grownBy W8 (some wr.heap.size):=by rw[← lK];exact aW (aW (av _ _ _ _) (av _ _ _ _)) (av _ _ _ _)
   have vS:=aa (show aK W8 wr.heap.size [.int .i64 d.id,.int .i64 d.size,.slice ra ma ja,.slice rb mb jb,.slice rc mc jc] by rw[← lK];exact ((lj.set 2 (.slice ra ma ja)).set 3 (.slice rb mb jb)).set 4 (.slice rc mc jc));have gI:=aa (show Bw wr W8 by rw[← lK];exact ((fw.setCell (p:=⟨wr.heap.size,2,none⟩) aT _).setCell (p:=⟨wr.heap.size,3,none⟩) aT _).setCell (p:=⟨wr.heap.size,4,none⟩) aT _);have hO8:=pP.kept hg8 (fun q hq e=>by have h1:=hq.1;have:=Ff.o;have:=Option.some.inj e;omega);have ak6:=hg8.size;obtain ⟨g9,c9,w9,hrun,hv9,kn⟩:=HV.push gI hO8 (fun q hq=>(HF q hq).2) (fun q hq=>by have h1:=hq.1;have h2:=hq.2;have:=Ff.o;exact ⟨by omega,by omega⟩) HI.1 HI.2 (n:=k) (by rw[List.length_take,ll.o];omega) (by omega) HB.size;have dJ:=aa hrun;have ke:=aa kn;have HV9:=aa (show fF w9 W5.heap.size (fun q=>(F q∨wr.heap.size≤q)∧q<w9.heap.size∧q≠g9) (.slice (some ⟨g9,0,none⟩) (k+1) c9) (aw.take (k+1)) by rw[List.take_add_one,HD.o,Option.toList_some];exact hv9);rw[lK];obtain ⟨b0,b1,b2,b3,b4⟩:=vS.five;clear lK hg8 hO8 ak6 hrun hv9 kn c2' c3' c4' e2 e3 e4;go_wp2_with (at_builtin;refine Lib.wpList_append_run _ rfl _ _ _ _ rfl _ _ rfl rfl _ _ dJ.o ?_);go_roundw
   case rel=>exact ⟨k+1,g9,c9,_,by omega,by go_num,rfl,HV9.o,fun q hq=>⟨by rcases hq.1 with h|h;exact (HF.o q h).1;have:=HB.o.size;omega,hq.2.1⟩,(HB.o.trans (gI.o.mono HB.o.size)).trans ke.o⟩
   case measure=>simp[intOf];omega
end Go.Proofs.YtbigkioechkngaaGreat
namespace Go.Proofs.YtbigkioechkngaaGreat
open Go.RowKit Go.Shelf
open Go.Proofs.Tryz
variable {n:Int}{f:Int→Option aB}{c:List (List aj)}{pre:List (aB×Int)}{sP:List Value}{l:List dx}{B T b b6 b8:Nat}{D F M M' Z:Nat→Prop}{row:Option Nat}{v:PV}{a0 a1 a2 a3 u vv:Value}{A C W W' W3 w w':World}{p:cm}
def gZ:List Value:=[.slice none 0 0,.slice none 0 0,.int .i64 0,.slice none 0 0,.bool false,.int .i64 0,.int .i64 0,.int .i64 0,.slice none 0 0,.slice none 0 0]
structure sr (w W3:World) (sP:List Value) (n:Int) (W:World):Prop where
 cZ:dn (fun q=>q<w.heap.size+4) W3 W
 p2:aK W w.heap.size sP
 n3:aK W (w.heap.size+1) [.int .i64 n]
 r4:aK W (w.heap.size+1+1) gZ
 r5:aK W (w.heap.size+1+1+1) [.int .i64 0]
 below:Bw w W
 three:w.heap.size+4≤W3.heap.size
theorem sr.kept (h:sr w W3 sP n A) (hg:A.grownBy C row) (hr:∀r,row=some r→W3.heap.size≤r):sr w W3 sP n C:=by
 have h3:=h.three;have hne:∀b,b<w.heap.size+4→some b≠row:=fun b hb e=>by have:=hr b e.symm;omega
 have hs:=h.cZ.size;refine ⟨⟨hg.os.trans h.cZ.os,hg.tape.trans h.cZ.tape,hg.output.trans h.cZ.output,Nat.le_trans hs hg.size,fun k hk hz=>(hg.block k (by omega) (fun e=>by have:=hr k e.symm;omega)).trans (h.cZ.block k hk hz)⟩,h.p2.grown hg (hne _ (by omega)),h.n3.grown hg (hne _ (by omega)),h.r4.grown hg (hne _ (by omega)),h.r5.grown hg (hne _ (by omega)),?_,h3⟩;have hb:=h.below;exact ⟨hg.os.trans hb.os,hg.tape.trans hb.tape,hg.output.trans hb.output,Nat.le_trans hb.size hg.size,fun k hk=>(hg.block k (by have:=hb.size;omega) (hne _ (by omega))).trans (hb.block k hk)⟩
theorem sr.low (h:sr w W3 sP n A) (hb:Bw A C):sr w W3 sP n C:=h.kept (aS hb none) (fun r e=>by cases e)
theorem sr.hP (h:sr w W3 sP n A) (hz:dn Z A C) (hZ:∀q,Z q→W3.heap.size≤q):sr w W3 sP n C:=by
 have h3:=h.three;have hs:=h.cZ.size;have hb:=h.below;have blk:∀ {b:Nat} {cs:List Value},b<w.heap.size+4→aK A b cs→aK C b cs:=fun hlt hk=>by have hl:=hk.lt;obtain ⟨T,e⟩:=hk;exact ⟨T,(hz.block _ hl (fun h=>by have:=hZ _ h;omega)).trans e⟩
 refine ⟨⟨hz.os.trans h.cZ.os,hz.tape.trans h.cZ.tape,hz.output.trans h.cZ.output,Nat.le_trans hs hz.size,fun k hk hn=>(hz.block k (by omega) (fun h=>by have:=hZ _ h;omega)).trans (h.cZ.block k hk hn)⟩,blk (by omega) h.p2,blk (by omega) h.n3,blk (by omega) h.r4,blk (by omega) h.r5,?_,h3⟩;exact ⟨hz.os.trans hb.os,hz.tape.trans hb.tape,hz.output.trans hb.output,Nat.le_trans hb.size hz.size,fun k hk=>(hz.block k (by have:=hb.size;omega) (fun h=>by have:=hZ _ h;omega)).trans (hb.block k hk)⟩
theorem fF.same (h:fF w B F vv l) (hF:∀q,F q→B≤q) (hs:∀q,B≤q→q<w.heap.size→w'.heap[q]?=w.heap[q]?):fF w' B F vv l:=by obtain ⟨xs,G,h1,h2,h3,h4,h5⟩:=h;exact ⟨xs,G,h1,fS h2 (fun g e hl=>hs g (h2.lt g e).1 hl),fun j x hx=>⟨(h3 j x hx).1,(h3 j x hx).2.1,(h3 j x hx).2.2.same fun q hq hl=>hs q (hF q (h4 j q hq).1) hl⟩,h4,h5⟩
theorem yJ.same (h:yJ w B T F p v) (hs:∀q,B≤q→q<w.heap.size→w'.heap[q]?=w.heap[q]?) (hsz:w.heap.size≤w'.heap.size):yJ w' B T F p v:=by
 obtain ⟨g,cap,rs,e,ht⟩:=h.tabs;refine ⟨h.disk.keeps (fun a u hu=>?_),h.aw.same (fun q hq=>(h.fl q hq).1) hs,⟨g,cap,rs,e,?_⟩,h.bt,h.fl,Nat.le_trans h.sz hsz,h.bm,h.bg,h.ba⟩
 ·obtain ⟨h1,h2⟩:=aq.1 hu
  exact aq.2 ⟨h1,(World.cell?_of_block (hs a.block h1.1 (World.block_lt_of_cell? _ _ h2))).trans h2⟩
 ·have Ud:=h.bt
  exact ⟨ht.1,fS ht.2.1 (fun g e hl=>hs g (by have:=(ht.2.1.lt g e).1;omega) hl),fun i s t hi hj=>fS (ht.2.2.1 i s t hi hj) (fun g e hl=>hs g (by have:=((ht.2.2.1 i s t hi hj).lt g e).1;omega) hl),ht.2.2.2⟩
theorem yJ.tin (h:yJ w B T F p v):eZ w (fun q=>T≤q∧q<w.heap.size) v.t p.tabs:=by obtain ⟨g,cap,rs,e,ht⟩:=h.tabs;rw[e];exact mB.tin (.inr ⟨g,cap,rs,rfl,ht⟩)
theorem yJ.at (h:yJ w B T F p v):br w p v:=
 ⟨h.disk.keeps df,h.aw.at,h.tin.at.keep df,h.bm,h.bg,h.ba⟩
theorem tS (W:World) (b:Nat) (y0 y1 y2 y3 y4 y5 y6 y7 y8 y9:Value) (h:Z b):dn Z W (cQ W b y0 y1 y2 y3 y4 y5 y6 y7 y8 y9):=dn.gB (iB W b y0 y1 y2 y3 y4 y5 y6 y7 y8 y9) (fun r e=>by cases e;exact h)
theorem sr.out (h:sr w W3 sP n W) (y0 y1 y2 y3 y4 y5 y6 y7 y8 y9 c:Value) :
 aK ((cQ W (w.heap.size+1+1) y0 y1 y2 y3 y4 y5 y6 y7 y8 y9).setCell ⟨w.heap.size+1+1+1,0,none⟩ c) (w.heap.size+1+1) [y0,y1,y2,y3,y4,y5,y6,y7,y8,y9] ∧
 aK ((cQ W (w.heap.size+1+1) y0 y1 y2 y3 y4 y5 y6 y7 y8 y9).setCell ⟨w.heap.size+1+1+1,0,none⟩ c) (w.heap.size+1+1+1) [c] ∧
 dn (fun q=>w.heap.size≤q∧q<w.heap.size+4) W ((cQ W (w.heap.size+1+1) y0 y1 y2 y3 y4 y5 y6 y7 y8 y9).setCell ⟨w.heap.size+1+1+1,0,none⟩ c):=by
 refine ⟨(aK.cQ h.r4 y0 y1 y2 y3 y4 y5 y6 y7 y8 y9).far (by omega) _ _,(h.r5.grown (iB W (w.heap.size+1+1) y0 y1 y2 y3 y4 y5 y6 y7 y8 y9) (fun e=>by have:=Option.some.inj e;omega)).set 0 c,(tS W _ y0 y1 y2 y3 y4 y5 y6 y7 y8 y9 ⟨by omega,by omega⟩).trans (dn.gB (av _ _ 0 c) (fun r e=>by cases e;exact ⟨by omega,by omega⟩))⟩
theorem WE (h4:aK W (w.heap.size+1+1) gZ) (h5:aK W (w.heap.size+1+1+1) [.int .i64 0]) (y0 y1 y2 y3 y4 y5 y6 y7 y8 y9 c:Value) :
 aK ((cQ W (w.heap.size+1+1) y0 y1 y2 y3 y4 y5 y6 y7 y8 y9).setCell ⟨w.heap.size+1+1+1,0,none⟩ c) (w.heap.size+1+1) [y0,y1,y2,y3,y4,y5,y6,y7,y8,y9] ∧
 aK ((cQ W (w.heap.size+1+1) y0 y1 y2 y3 y4 y5 y6 y7 y8 y9).setCell ⟨w.heap.size+1+1+1,0,none⟩ c) (w.heap.size+1+1+1) [c] ∧
 dn (fun q=>w.heap.size≤q∧q<w.heap.size+4) W ((cQ W (w.heap.size+1+1) y0 y1 y2 y3 y4 y5 y6 y7 y8 y9).setCell ⟨w.heap.size+1+1+1,0,none⟩ c):=by
 refine ⟨(aK.cQ h4 y0 y1 y2 y3 y4 y5 y6 y7 y8 y9).far (by omega) _ _,(h5.grown (iB W (w.heap.size+1+1) y0 y1 y2 y3 y4 y5 y6 y7 y8 y9) (fun e=>by have:=Option.some.inj e;omega)).set 0 c,(tS W _ y0 y1 y2 y3 y4 y5 y6 y7 y8 y9 ⟨by omega,by omega⟩).trans (dn.gB (av _ _ 0 c) (fun r e=>by cases e;exact ⟨by omega,by omega⟩))⟩
theorem dn.EY (h:dn Z W W') (hb:Bw w W) (hZ:∀q,Z q→w.heap.size≤q):Bw w W':=
 ⟨h.os.trans hb.os,h.tape.trans hb.tape,h.output.trans hb.output,Nat.le_trans hb.size h.size,fun k hk=>(h.block k (by have:=hb.size;omega) (fun hz=>by have:=hZ k hz;omega)).trans (hb.block k hk)⟩
theorem aK.settled {cs:List Value} (h:aK W b cs) (hs:rF B W W'):aK W' b cs:=by obtain ⟨T,h⟩:=h;exact ⟨T,hs.2 b _ h rfl⟩
theorem Ps (W:World):br W Ep ⟨.slice none 0 0,.slice none 0 0,.slice none 0 0,.slice none 0 0,.slice none 0 0⟩:=
 ⟨ox _,⟨none,0,rfl,aT,by unfold maxLen;omega,fun i x hx=>by simp[Ep] at hx⟩,rL _,by show aQ 0;unfold aQ;omega,by show aQ 0;unfold aQ;omega,by show aQ 0;unfold aQ;omega⟩
theorem ch5 (W:World) (tv vv:Value) (n:Int) (W5:World) (h:((((W.alloc (.map #[] 0)).alloc (.cells #[.map (some W.heap.size)] 58)).alloc (.cells #[tv] 28)).alloc (.cells #[vv] 27)).alloc (.cells #[.int .i64 n] 3)=W5) :
 js W5 W.heap.size 0 (fun _=>none)∧aK W5 (W.heap.size+1) [.map (some W.heap.size)]∧aK W5 (W.heap.size+1+1) [tv]∧aK W5 (W.heap.size+1+1+1) [vv]∧aK W5 (W.heap.size+1+1+1+1) [.int .i64 n]∧W5.heap.size=W.heap.size+5∧Bw W W5:=by
 subst h;obtain ⟨h1,h2,h3,h4,hb⟩:=Wh (W.alloc (.map #[] 0)) [.map (some W.heap.size)] [tv] [vv] [.int .i64 n] 58 28 27 3;rw[World.size_alloc] at h1 h2 h3 h4;exact ⟨(js.new W).below hb,h1,h2,h3,h4,by simp,(ar).trans (hb.mono (by simp))⟩
theorem eZ.MH {v:Value} (h:eZ A Z v c) (hg:A.grownBy C row) (hr:∀r,row=some r→∃o,A.heap[r]?=some o∧o.isCells=false):eZ C Z v c:=by
 obtain ⟨rs,⟨h1,h2,h3,h4⟩,h5,h6⟩:=h;have far:∀ {B k n:Nat} {e:TypeId} {u:Value} {xs:List Value},A.ownsRow B e k u n xs→C.ownsRow B e k u n xs:=fun ho=>ho.kept hg (A9 fun g e h=>by
  obtain ⟨o,h7,h8⟩:=hr g h;rcases aJ ho with ⟨hv,_,_⟩|⟨g',cap',hv⟩
  ·rw[hv] at e;cases e
  ·subst hv
   obtain ⟨cur,h9,_⟩:=bl ho;have:g'=g:=by simpa [Value.ownBlock] using e
   subst this;rw[h9] at h7;cases h7;cases h8)
 exact ⟨rs,⟨h1,far h2,fun i s t hs ht=>far (h3 i s t hs ht),h4⟩,h5,h6⟩
def isC (W:World) (q:Nat):Prop:=∃cs t fr,W.heap[q]?=some (.cells cs t fr)
structure In1 (w W3:World) (sP:List Value) (n:Int) (T:Nat) (tabs:List (List aj)) (M:Nat→Prop) (pre:List (aB×Int)) (W:World):Prop where
 st:sr w W3 sP n W
 b6:aK W (W3.heap.size+1) [.map (some W3.heap.size)]
 ex:∃(c:List (List aj)) (f:Int→Option aB) (vt:Value),bH n pre (tabs,fun _=>none)=some (c,f)∧js W W3.heap.size pre.length f∧aK W (W3.heap.size+1+1) [vt]∧eZ W (fun q=>(pre=[]∧T≤q∧q<W3.heap.size)∨(W3.heap.size+5≤q∧q<W.heap.size)) vt c
 IV:∀q,M q→W3.heap.size+4≤q∧q<W.heap.size
 sz:W3.heap.size+5≤W.heap.size
theorem In1.kept {tabs:List (List aj)} (h:In1 w W3 sP n T tabs M pre A) (hg:A.grownBy C row) (hr:∀r,row=some r→W3.heap.size+5≤r∧∃o,A.heap[r]?=some o∧o.isCells=false) (hn:New M M' A C):In1 w W3 sP n T tabs M' pre C:=by
 obtain ⟨c,f,vt,e1,e2,e3,e4⟩:=h.ex;have hne:∀b,b<W3.heap.size+5→some b≠row:=fun b hb e=>by have:=(hr b e.symm).1;omega
 refine ⟨h.st.kept hg (fun r e=>by have:=(hr r e).1;omega),h.b6.grown hg (hne _ (by omega)),⟨c,f,vt,e1,e2.kept hg (hne _ (by omega)),e3.grown hg (hne _ (by omega)),(e4.MH hg fun r e=>(hr r e).2).mono fun q hq=>?_⟩,fun q hm=>?_,Nat.le_trans h.sz hg.size⟩
 ·rcases hq with hq|hq
  ·exact .inl hq
  ·exact .inr ⟨hq.1,Nat.lt_of_lt_of_le hq.2 hg.size⟩
 ·rcases hn q hm with hm|hm
  ·have:=h.IV q hm;have:=hg.size;exact ⟨by omega,by omega⟩
  ·have:=h.sz;exact ⟨by have:=hm.1;omega,hm.2⟩
theorem dn.from (h:dn Z W W') (hz:∀q,Z q→q<B∨isC W q):KeepsFrom B W W':=
 ⟨h.size,fun k o hb hk ho=>(h.block k (Array.getElem?_eq_some_iff.1 hk).1 (fun hq=>by
  rcases hz k hq with h1|⟨cs,t,fr,h1⟩
  ·omega
  ·rw[h1] at hk;cases hk;cases ho)).trans hk⟩
theorem dn.keep (h:dn Z W W') (hz:∀q,Z q→¬M q):fp M W W':=⟨h.size,fun b hm hb=>h.block b hb (fun hq=>hz b hq hm)⟩
theorem aK.cZ {Z:Nat→Prop} {W W':World} {b:Nat} {cs:List Value} (h:aK W b cs) (hz:dn Z W W') (hb:¬Z b):aK W' b cs:=by have hl:=h.lt;obtain ⟨T,h⟩:=h;exact ⟨T,(hz.block b hl hb).trans h⟩
structure Ix1 (w W3:World) (sP:List Value) (n:Int) (tabs:List (List aj)) (c:Code) (pre:List (aB×Int)) (W:World):Prop where
 ret:c=.ret
 no:bH n pre (tabs,fun _=>none)=none
 cZ:dn (fun q=>q<w.heap.size+4) W3 W
 r4:aK W (w.heap.size+1+1) sP
 r5:aK W (w.heap.size+1+1+1) [.int .i64 210]
 below:Bw w W
 three:w.heap.size+4≤W3.heap.size
theorem Bf (h:dn (fun q=>q<B) W3 A) (hg:A.grownBy C row) (hr:∀r,row=some r→W3.heap.size≤r):dn (fun q=>q<B) W3 C:=
 ⟨hg.os.trans h.os,hg.tape.trans h.tape,hg.output.trans h.output,Nat.le_trans h.size hg.size,fun k hk hz=>(hg.block k (Nat.lt_of_lt_of_le hk h.size) (fun e=>by have:=hr k e.symm;omega)).trans (h.block k hk hz)⟩
theorem Ix1.kept {tabs:List (List aj)} {c:Code} (h:Ix1 w W3 sP n tabs c pre A) (hg:A.grownBy C row) (hr:∀r,row=some r→W3.heap.size≤r):Ix1 w W3 sP n tabs c pre C:=by
 have h3:=h.three;have hne:∀b,b<w.heap.size+4→some b≠row:=fun b hb e=>by have:=hr b e.symm;omega
 have hb:=h.below;exact ⟨h.ret,h.no,Bf h.cZ hg hr,h.r4.grown hg (hne _ (by omega)),h.r5.grown hg (hne _ (by omega)),⟨hg.os.trans hb.os,hg.tape.trans hb.tape,hg.output.trans hb.output,Nat.le_trans hb.size hg.size,fun k hk=>(hg.block k (by have:=hb.size;omega) (hne _ (by omega))).trans (hb.block k hk)⟩,h3⟩
theorem Lj {b7 b3:Nat} {n0:Value} (h7:aK W b7 [u]) (h8:aK W b8 [a0,a1,a2,a3]) (h3:aK W b3 [n0]):W.cell? ⟨b7,0,none⟩=some u∧W.cell? ⟨b8,0,none⟩=some a0∧W.cell? ⟨b8,1,none⟩=some a1∧W.cell? ⟨b8,2,none⟩=some a2∧W.cell? ⟨b8,3,none⟩=some a3∧W.cell? ⟨b3,0,none⟩=some n0:=⟨h7.one,h8.cell rfl,h8.cell rfl,h8.cell rfl,h8.cell rfl,h3.one⟩
theorem Lk (h7:aK W b6 [u]) (h8:aK W b8 [a0,a1,a2,a3]):W.cell? ⟨b6,0,none⟩=some u∧W.cell? ⟨b8,0,none⟩=some a0∧W.cell? ⟨b8,1,none⟩=some a1∧W.cell? ⟨b8,2,none⟩=some a2∧W.cell? ⟨b8,3,none⟩=some a3:=⟨h7.one,h8.cell rfl,h8.cell rfl,h8.cell rfl,h8.cell rfl⟩
theorem eZ.hP {Z':Nat→Prop} {v:Value} (h:eZ A Z v c) (hz:dn Z' A C) (hd:∀q,Z q→¬Z' q):eZ C Z v c:=by obtain ⟨rs,⟨h1,h2,h3,h4⟩,h5,h6⟩:=h;exact ⟨rs,⟨h1,fS h2 (fun g e hl=>hz.block g hl (hd g (h5 g e))),fun i s t hs ht=>fS (h3 i s t hs ht) (fun g e hl=>hz.block g hl (hd g (h6 i s hs g e))),h4⟩,h5,h6⟩
theorem sQ (hg:A.grownBy C row) (hr:∀r,row=some r→∃o,A.heap[r]?=some o∧o.isCells=false):dI (mask D A) (mask D C):=fun a u hu=>by obtain ⟨h1,h2⟩:=aq.1 hu;refine aq.2 ⟨h1,(World.cell?_of_block (hg.block a.block (World.block_lt_of_cell? _ _ h2) (fun e=>?_))).trans h2⟩;obtain ⟨o,h3,h4⟩:=hr a.block e.symm;simp only[World.cell?,h3] at h2;cases o <;> simp_all[Obj.isCells]
theorem kz (hz:dn Z A C) (hd:∀q,Z q→¬D q):dI (mask D A) (mask D C):=fun a u hu=>by obtain ⟨h1,h2⟩:=aq.1 hu;exact aq.2 ⟨h1,(World.cell?_of_block (hz.block a.block (World.block_lt_of_cell? _ _ h2) (fun h=>hd _ h h1))).trans h2⟩
structure In2 (w W3 W8:World) (sP:List Value) (n met:Int) (b:Nat) (D:Nat→Prop) (f:Int→Option aB) (d0:aO) (M:Nat→Prop) (pre:List (aB×Int)) (W:World):Prop where
 st:sr w W3 sP n W
 cZ:dn (fun q=>q=b) W8 W
 ex:∃(d:aO) (pk:Option Addr) (nk ck:Nat) (pc:Option Addr) (nc cc:Nat) (pp:Option Addr) (np cp:Nat),bB met f pre d0=(d,0)∧aK W b [.slice pk nk ck,.slice pc nc cc,.int .i64 d.ah,.slice pp np cp,.bool d.dead]∧bN (mask D W) d (.slice pk nk ck) (.slice pc nc cc) (.slice pp np cp)
 IV:∀q,M q→b<q∧q<W.heap.size
 sz:b+3≤W.heap.size
theorem In2.kept {W8:World} {met:Int} {d0:aO} (h:In2 w W3 W8 sP n met b D f d0 M pre A) (hb:W3.heap.size≤b) (h8:W8.heap.size=b+3) (hg:A.grownBy C row) (hr:∀r,row=some r→b+3≤r∧∃o,A.heap[r]?=some o∧o.isCells=false) (hn:New M M' A C):In2 w W3 W8 sP n met b D f d0 M' pre C:=by
 obtain ⟨d,pk,nk,ck,pc,nc,cc,pp,np,cp,e1,e2,e3⟩:=h.ex;refine ⟨h.st.kept hg (fun r e=>by have:=(hr r e).1;omega),⟨hg.os.trans h.cZ.os,hg.tape.trans h.cZ.tape,hg.output.trans h.cZ.output,Nat.le_trans h.cZ.size hg.size,fun k hk hz=>(hg.block k (Nat.lt_of_lt_of_le hk h.cZ.size) (fun e=>by have:=(hr k e.symm).1;omega)).trans (h.cZ.block k hk hz)⟩,
  ⟨d,pk,nk,ck,pc,nc,cc,pp,np,cp,e1,e2.grown hg (fun e=>by have:=(hr b e.symm).1;omega),e3.keeps (sQ hg fun r e=>(hr r e).2)⟩,fun q hm=>?_,Nat.le_trans h.sz hg.size⟩
 rcases hn q hm with hm|hm
 ·have:=h.IV q hm;have:=hg.size;exact ⟨by omega,by omega⟩
 ·have:=h.sz;exact ⟨by have:=hm.1;omega,hm.2⟩
structure Ix2 (w W3 W8:World) (P5:List Value) (n met:Int) (b:Nat) (D:Nat→Prop) (f:Int→Option aB) (d0:aO) (c:Code) (pre:List (aB×Int)) (W:World):Prop where
 ret:c=.ret
 cZ:dn (fun q=>q<w.heap.size+4) W3 W
 z8:dn (fun q=>q=b∨q<w.heap.size+4) W8 W
 ex:∃(d:aO) (code:Int) (pk:Option Addr) (nk ck:Nat) (pc:Option Addr) (nc cc:Nat) (pp:Option Addr) (np cp:Nat),bB met f pre d0=(d,code)∧¬code=0∧aK W (w.heap.size+1+1) (.slice pk nk ck::.slice pc nc cc::.int .i64 d.ah::.slice pp np cp::.bool d.dead::P5)∧aK W (w.heap.size+1+1+1) [.int .i64 code]∧bN (mask D W) d (.slice pk nk ck) (.slice pc nc cc) (.slice pp np cp)
 below:Bw w W
 three:w.heap.size+4≤W3.heap.size
theorem Ix2.kept {W8:World} {P5:List Value} {met:Int} {d0:aO} {c:Code} (h:Ix2 w W3 W8 P5 n met b D f d0 c pre A) (hg:A.grownBy C row) (h38:W3.heap.size≤W8.heap.size) (hr:∀r,row=some r→W8.heap.size≤r∧∃o,A.heap[r]?=some o∧o.isCells=false):Ix2 w W3 W8 P5 n met b D f d0 c pre C:=by
 have h3:=h.three;have hne:∀b,b<w.heap.size+4→some b≠row:=fun b hb e=>by have:=(hr b e.symm).1;omega
 have hb:=h.below;obtain ⟨d,code,pk,nk,ck,pc,nc,cc,pp,np,cp,e1,e2,e3,e4,e5⟩:=h.ex;exact ⟨h.ret,Bf h.cZ hg (fun r e=>Nat.le_trans h38 (hr r e).1),⟨hg.os.trans h.z8.os,hg.tape.trans h.z8.tape,hg.output.trans h.z8.output,Nat.le_trans h.z8.size hg.size,fun k hk hz=>(hg.block k (Nat.lt_of_lt_of_le hk h.z8.size) (fun e=>by have:=(hr k e.symm).1;omega)).trans (h.z8.block k hk hz)⟩,⟨d,code,pk,nk,ck,pc,nc,cc,pp,np,cp,e1,e2,e3.grown hg (hne _ (by omega)),e4.grown hg (hne _ (by omega)),e5.keeps (sQ hg fun r e=>(hr r e).2)⟩,⟨hg.os.trans hb.os,hg.tape.trans hb.tape,hg.output.trans hb.output,Nat.le_trans hb.size hg.size,fun k hk=>(hg.block k (by have:=hb.size;omega) (hne _ (by omega))).trans (hb.block k hk)⟩,h3⟩
theorem ch8 (W:World) (a0 a1 a2 a3 a4 vv:Value) (n:Int) (W8:World) (h:((W.alloc (.cells #[a0,a1,a2,a3,a4] 26)).alloc (.cells #[vv] 27)).alloc (.cells #[.int .i64 n] 3)=W8) :
 aK W8 W.heap.size [a0,a1,a2,a3,a4]∧aK W8 (W.heap.size+1) [vv]∧aK W8 (W.heap.size+1+1) [.int .i64 n]∧W8.heap.size=W.heap.size+3∧Bw W W8:=by
 subst h;obtain ⟨h1,h2,h3,hb⟩:=NW W [a0,a1,a2,a3,a4] [vv] [.int .i64 n] 26 27 3;exact ⟨h1,h2,h3,by simp,hb⟩
theorem ch6 (W:World) (vv:Value) (n:Int) (W8:World) (h:(W.alloc (.cells #[vv] 27)).alloc (.cells #[.int .i64 n] 3)=W8) :
 aK W8 W.heap.size [vv]∧aK W8 (W.heap.size+1) [.int .i64 n]∧W8.heap.size=W.heap.size+2∧Bw W W8:=by
 subst h;obtain ⟨h1,h2,hb⟩:=yH W [vv] [.int .i64 n] 27 3;exact ⟨h1,h2,by simp,hb⟩
theorem pd {k:Int} {y:Value} {m:Nat} (h7:aK W b6 [u]) (h8:aK W b8 [a0,a1,a2,a3]) (h:(Instr.lookup 58 (.map (some m)) (.int .i64 k) false).run prog W=.ok y W):W.cell? ⟨b6,0,none⟩=some u∧W.cell? ⟨b8,0,none⟩=some a0∧W.cell? ⟨b8,1,none⟩=some a1∧W.cell? ⟨b8,2,none⟩=some a2∧W.cell? ⟨b8,3,none⟩=some a3∧(Instr.lookup 58 (.map (some m)) (.int .i64 k) false).run prog W=.ok y W:=⟨h7.one,h8.cell rfl,h8.cell rfl,h8.cell rfl,h8.cell rfl,h⟩
theorem aK.ala {x0 x1 x2 x3:Value} (h:aK W b [x0,x1,x2,x3]) (y0 y1 y2 y3:Value):aK ((((W.setCell ⟨b,0,none⟩ y0).setCell ⟨b,1,none⟩ y1).setCell ⟨b,2,none⟩ y2).setCell ⟨b,3,none⟩ y3) b [y0,y1,y2,y3]:=(((h.set 0 y0).set 1 y1).set 2 y2).set 3 y3
theorem Ll (W:World) (b:Nat) (y0 y1 y2 y3:Value):W.grownBy ((((W.setCell ⟨b,0,none⟩ y0).setCell ⟨b,1,none⟩ y1).setCell ⟨b,2,none⟩ y2).setCell ⟨b,3,none⟩ y3) (some b):=aW (aW (aW (av W b 0 y0) (av _ b 1 y1)) (av _ b 2 y2)) (av _ b 3 y3)
theorem pg (W:World) (b:Nat) (y0 y1 y2 y3 y4:Value):W.grownBy (((((W.setCell ⟨b,0,none⟩ y0).setCell ⟨b,1,none⟩ y1).setCell ⟨b,2,none⟩ y2).setCell ⟨b,3,none⟩ y3).setCell ⟨b,4,none⟩ y4) (some b):=aW (Ll W b y0 y1 y2 y3) (av _ b 4 y4)
theorem js.get_at {n:Nat} (h:js W b n f) {k:Int} (hk:aQ k) {y:aB} (hy:f k=some y):(Instr.lookup 58 (.map (some b)) (.int .i64 k) false).run prog W=.ok y.agg W:=by have:=h.get hk;rw[hy] at this;exact this
def afV (Wb:World) (lo:Nat) (yc yp ys:Int) (yk:Bool) (v15:Value) (wx:World):Prop:=∃Lm,v15=.pointer (some ⟨Lm,0,none⟩)∧aK wx Lm [.int .i64 yc,.int .i64 yp,.int .i64 ys,.bool yk]∧Bw Wb wx∧lo≤Lm
theorem wQ {b13 b2 BI Lm:Nat} {d0 d1 d2 d3 d4 p0 p1 p2 p3 p4 p5 p6 p7 p8 p9 y0 y1 y2 y3:Value} (Z8:aK W b13 [d0,d1,d2,d3,d4]) (h2:aK W b2 [p0,p1,p2,p3,p4,p5,p6,p7,p8,p9]) (h14:aK W BI [a0,a1,a2,a3]) (h15:aK W Lm [y0,y1,y2,y3]) :
 W.cell? ⟨b13,0,none⟩=some d0∧W.cell? ⟨b13,1,none⟩=some d1∧W.cell? ⟨b13,2,none⟩=some d2∧W.cell? ⟨b13,3,none⟩=some d3∧W.cell? ⟨b13,4,none⟩=some d4 ∧
 W.cell? ⟨b2,0,none⟩=some p0∧W.cell? ⟨b2,1,none⟩=some p1∧W.cell? ⟨b2,2,none⟩=some p2∧W.cell? ⟨b2,3,none⟩=some p3∧W.cell? ⟨b2,4,none⟩=some p4∧W.cell? ⟨b2,5,none⟩=some p5∧W.cell? ⟨b2,6,none⟩=some p6∧W.cell? ⟨b2,7,none⟩=some p7∧W.cell? ⟨b2,8,none⟩=some p8∧W.cell? ⟨b2,9,none⟩=some p9 ∧
 W.cell? ⟨BI,0,none⟩=some a0∧W.cell? ⟨BI,1,none⟩=some a1∧W.cell? ⟨BI,2,none⟩=some a2∧W.cell? ⟨BI,3,none⟩=some a3∧W.cell? ⟨Lm,0,none⟩=some y0∧W.cell? ⟨Lm,1,none⟩=some y1∧W.cell? ⟨Lm,2,none⟩=some y2∧W.cell? ⟨Lm,3,none⟩=some y3:=
 ⟨Z8.cell rfl,Z8.cell rfl,Z8.cell rfl,Z8.cell rfl,Z8.cell rfl,h2.cell rfl,h2.cell rfl,h2.cell rfl,h2.cell rfl,h2.cell rfl,h2.cell rfl,h2.cell rfl,h2.cell rfl,h2.cell rfl,h2.cell rfl,h14.cell rfl,h14.cell rfl,h14.cell rfl,h14.cell rfl,h15.cell rfl,h15.cell rfl,h15.cell rfl,h15.cell rfl⟩
def afW (Wb:World) (D:Nat→Prop) (lo:Nat) (r:aO×Int) (v16 v17:Value) (wx:World):Prop:=∃(b16:Nat) (pk:Option Addr) (nk ck:Nat) (pc:Option Addr) (nc cc:Nat) (pp:Option Addr) (np cp:Nat),v16=.pointer (some ⟨b16,0,none⟩)∧v17=.int .i64 r.2∧lo≤b16 ∧
 aK wx b16 [.slice pk nk ck,.slice pc nc cc,.int .i64 r.1.ah,.slice pp np cp,.bool r.1.dead]∧bN (mask D wx) r.1 (.slice pk nk ck) (.slice pc nc cc) (.slice pp np cp)∧Bw Wb wx
def yK (W:World) (q:Nat):Prop:=∃cs t fr,W.heap[q]?=some (.cells cs t fr)∧(t=52∨t=45)
theorem eZ.uses {v:Value} (h:eZ A Z v c):eZ A (fun q=>Z q∧yK A q) v c:=by
 obtain ⟨rs,⟨h1,h2,h3,h4⟩,h5,h6⟩:=h;have far:∀ {B k n:Nat} {e:TypeId} {u:Value} {xs:List Value} {g:Nat},(e=52∨e=45)→A.ownsRow B e k u n xs→u.ownBlock=some g→yK A g:=fun {_ _ _ _ _ _ g} ht ho e=>by
  rcases aJ ho with ⟨hv,_,_⟩|⟨g',cap',hv⟩
  ·rw[hv] at e;cases e
  ·subst hv
   obtain ⟨cur,h9,_⟩:=bl ho;have:g'=g:=by simpa [Value.ownBlock] using e
   subst this;exact ⟨_,_,_,h9,ht⟩
 refine ⟨rs,⟨h1,h2,h3,h4⟩,fun g e=>⟨h5 g e,far (.inr rfl) h2 e⟩,fun i s hs g e=>⟨h6 i s hs g e,?_⟩⟩;have hi:=(List.getElem?_eq_some_iff.1 hs).1;rw[h1] at hi;exact far (.inl rfl) (h3 i s _ hs (List.getElem?_eq_getElem hi)) e
def IW (W:World) (b:Nat) (x:aB):Prop:=W.heap[b]?=some (.cells #[.int .i64 x.chunk,.int .i64 x.pos,.int .i64 x.size,.bool x.packed] 50 (0,0))
theorem IW.blk {x:aB} (h:IW W b x):aK W b [.int .i64 x.chunk,.int .i64 x.pos,.int .i64 x.size,.bool x.packed]:=⟨_,h⟩
theorem IW.new (W:World) (x:aB):IW (W.alloc (.cells #[.int .i64 x.chunk,.int .i64 x.pos,.int .i64 x.size,.bool x.packed] 50)) W.heap.size x:=World.alloc_heap_new W _
theorem IW.no {x:aB} (h:IW W b x):¬yK W b:=fun ⟨cs,t,fr,h1,h2⟩=>by
 rw[show W.heap[b]?=_ from h] at h1;cases h1
 revert h2;decide
theorem js.no {n:Nat} (h:js W b n f):¬yK W b:=fun ⟨cs,t,fr,h1,h2⟩=>by obtain ⟨D,⟨es,clock,h3,_⟩,_⟩:=h;rw[h3] at h1;cases h1
structure In3 (w W3 W9:World) (sP:List Value) (n:Int) (b7 lo:Nat) (Zs Zz:Nat→Prop) (f:Int→Option aB) (c0:List (List aj)) (M:Nat→Prop) (pre:List (aB×Int)) (W:World):Prop where
 st:sr w W3 sP n W
 cZ:dn (fun q=>q=b7∨Zz q) W9 W
 ex:∃(p:Option Addr) (m k:Nat),aK W b7 [.slice p m k]∧eZ W (fun q=>Zs q∨(W9.heap.size≤q∧q<W.heap.size∧¬M q)) (.slice p m k) (cH f pre c0)
 IV:∀q,M q→lo≤q∧q<W.heap.size
theorem In3.kept {W9:World} {b7 lo:Nat} {Zs Zz:Nat→Prop} {c0:List (List aj)} (h:In3 w W3 W9 sP n b7 lo Zs Zz f c0 M pre A) (h39:W3.heap.size≤W9.heap.size) (h7:b7<W9.heap.size) (zt:lo≤W9.heap.size) (hg:A.grownBy C row) (hr:∀r,row=some r→W9.heap.size≤r∧∃o,A.heap[r]?=some o∧o.isCells=false) (hn:New M M' A C):In3 w W3 W9 sP n b7 lo Zs Zz f c0 M' pre C:=by
 obtain ⟨p,m,k,e1,e2⟩:=h.ex;refine ⟨h.st.kept hg (fun r e=>Nat.le_trans h39 (hr r e).1),⟨hg.os.trans h.cZ.os,hg.tape.trans h.cZ.tape,hg.output.trans h.cZ.output,Nat.le_trans h.cZ.size hg.size,fun k hk hz=>(hg.block k (Nat.lt_of_lt_of_le hk h.cZ.size) (fun e=>by have:=(hr k e.symm).1;omega)).trans (h.cZ.block k hk hz)⟩,
  ⟨p,m,k,e1.grown hg (fun e=>by have:=(hr _ e.symm).1;omega),(e2.MH hg fun r e=>(hr r e).2).mono fun q hq=>?_⟩,fun q hm=>?_⟩
 ·rcases hq with hq|⟨h1,h2,h3⟩
  ·exact .inl hq
  ·refine .inr ⟨h1,Nat.lt_of_lt_of_le h2 hg.size,fun hm=>?_⟩
   rcases hn q hm with hm|hm
   ·exact h3 hm
   ·have:=hm.1;omega
 ·rcases hn q hm with hm|hm
  ·have:=h.IV q hm;have:=hg.size;exact ⟨by omega,by omega⟩
  ·have:=h.cZ.size;exact ⟨by have:=hm.1;omega,hm.2⟩
theorem fF.kid (h:fF w B F vv l) {j:Nat} {d:dx} (hd:l[j]?=some d):∃(g cap:Nat) (K:Nat→Prop) (x y z:Value),vv=.slice (some ⟨g,0,none⟩) l.length cap∧w.cell? ⟨g,j*5+3,none⟩=some y∧w.cell? ⟨g,j*5+4,none⟩=some z∧fR w K d.map x y z∧¬K g∧(∀q,K q→F q) ∧
 ∀(w':World) (d':dx),d'.id=d.id→d'.size=d.size→fR w' K d'.map x y z→(∀q,q<w.heap.size→¬K q→w'.heap[q]?=w.heap[q]?)→fF w' B F vv (l.set j d'):=by
 obtain ⟨xs,G,rfl,h2,h3,h4,h5⟩:=h;rw[List.getElem?_map] at hd;cases hx:xs[j]? with
 |none=>rw[hx] at hd;cases hd
 |some r=>
  rw[hx] at hd;simp only[Option.map_some,Option.some.injEq] at hd;subst hd;have hj:=(List.getElem?_eq_some_iff.1 hx).1;rw[List.length_map] at h2;rcases aJ h2 with ⟨_,hn,_⟩|⟨g,cap,hv⟩
  ·omega
  subst hv;obtain ⟨i1,i2,i3⟩:=h3 j r hx;have hl:=mS xs;have hc:∀i u,(qu r.1 r.2)[i]?=some u→w.cell? ⟨g,j*5+i,none⟩=some u:=fun i u hi=>by have h6:=lq xs j r hx i u hi;obtain ⟨h7,h8⟩:=List.getElem?_eq_some_iff.1 h6;rw[bG h2 (j*5+i) h7,h8]
  refine ⟨g,cap,G j,r.2.1,r.2.2.1,r.2.2.2,by rw[List.length_map],hc 3 _ rfl,hc 4 _ rfl,i3,fun h=>(h4 j g h).2 rfl,fun q hq=>(h4 j q hq).1,fun w' d' e1 e2 hn hs=>?_⟩;have hm:(xs.set j (d',r.2)).map Prod.fst=(xs.map Prod.fst).set j d':=by rw[List.map_set]
  have afX:fO (xs.set j (d',r.2))=fO xs:=by
   unfold fO;congr 1;refine List.ext_getElem? fun i=>?_;rw[List.getElem?_map,List.getElem?_map];by_cases e:j=i
   ·subst e
    rw[List.getElem?_set_self hj,hx];simp only[Option.map_some,qu,e1,e2]
   ·rw[List.getElem?_set_ne e]
  refine ⟨xs.set j (d',r.2),G,hm,?_,fun i y hy=>?_,h4,h5⟩
  ·rw[List.length_set,List.length_map,afX]
   exact fS h2 (fun q e hl=>hs q hl (fun hk=>(h4 j q hk).2 e))
  ·by_cases e:j=i
   ·subst e
    rw[List.getElem?_set_self hj] at hy;cases hy;exact ⟨by rw[e1];exact i1,by rw[e2];exact i2,hn⟩
   ·rw[List.getElem?_set_ne e] at hy
    exact ⟨(h3 i y hy).1,(h3 i y hy).2.1,(h3 i y hy).2.2.same (fun q hq hl=>hs q hl (h5 i j q (fun h=>e h.symm) hq))⟩
def Lp (f:Int→Option aB) (l:List dx) (k:Nat):List dx:=(l.take k).map (mD f)++l.drop k
theorem WG {k:Nat} {v:dx} (h:l[k]?=some v):(Lp f l k)[k]?=some v:=by have hk:=(List.getElem?_eq_some_iff.1 h).1;unfold Lp;rw[List.getElem?_append_right (by rw[List.length_map,List.length_take];omega),List.length_map,List.length_take,Nat.min_eq_left (by omega),Nat.sub_self,List.getElem?_drop,Nat.add_zero];exact h
theorem Marks.hP {ds:List Deferred} (h:Marks B ds W) (hz:dn Z W W') (hZ:∀q,Z q→q<B):Marks B ds W':=
 h.step fun D hB hD=>(hz.block D (Array.getElem?_eq_some_iff.1 hD).1 (fun h=>by have:=hZ D h;omega)).trans hD
theorem fF.hP (h:fF w B F vv l) (hF:∀q,F q→B≤q) (hz:dn Z w w') (hZ:∀q,Z q→q<B):fF w' B F vv l:=
 h.same hF (fun q hq hl=>hz.block q hl (fun h=>by have:=hZ q h;omega))
theorem Tp {b2:Nat} {p0 p1 p2 p3 p4 p5 p6 p7 p8 p9:Value} (h2:aK W b2 [p0,p1,p2,p3,p4,p5,p6,p7,p8,p9]) (h6:aK W b6 [u]):W.cell? ⟨b2,8,none⟩=some p8∧W.cell? ⟨b6,0,none⟩=some u:=⟨h2.cell rfl,h6.one⟩
theorem yJ.hP (h:yJ w B T F p v) (hz:dn Z w w') (hZ:∀q,Z q→q<B):yJ w' B T F p v:=
 h.same (fun q hq hl=>hz.block q hl (fun h=>by have:=hZ q h;omega)) hz.size
end Go.Proofs.YtbigkioechkngaaGreat
namespace Go.Proofs.YtbigkioechkngaaGreat
open Go.RowKit Go.Proofs.Tryz
variable {Q:Int→Prop}{l:List ay}{W:World}{d:aO}{t:ag}{p:cm}
theorem Dw (h:Grown l t) (hr:jy l=true) (hp:l.all (dG 3)=true):cE ⟨1,3,t⟩=true:=by unfold cE;simp only;rw[h.may hr,h.1,hp];rfl
theorem Pt (h:Grown l t) (hr:jy l=true) (hp:l.all (dG 3)=true):fe [] ⟨1,3,t⟩=[⟨1,3,t⟩]:=by
 have hv:dP []=true:=by rw[dr];exact ⟨fun d hd=>by simp at hd,fun i x y hx hy=>by simp at hy,by simp⟩
 unfold fe;rw[if_pos ⟨hv,Dw h hr hp⟩];rfl
theorem Pu {t1:ag} {l1:List ay} (h:Grown l t) (hr:jy l=true) (hp:l.all (dG 3)=true) (h1:Grown l1 t1) (hr1:jy l1=true) (UR:l1.all (dG 3)=true):fe [⟨1,3,t1⟩] ⟨1,3,t⟩=[⟨1,3,t⟩]:=by unfold fe;rw[if_pos ⟨qU h1 hr1 UR,Dw h hr hp⟩];rfl
theorem Lq (v:PV) (w:World) (F:Nat→Prop) (hF:∀q,w.heap.size≤q→F q) (h:br (mask F w) xZ v):Calls prog 61 #[.agg #[v.k,v.c,.int .i64 cT.ah,v.p,.bool cT.dead,.int .i64 4,.int .i64 1,.int .i64 0,v.v,v.t],.agg #[.int .i64 0,.int .i64 1,.int .i64 0,.int .i64 0,.int .i64 3,.string ⟨#[]⟩]] w fun e w'=>
 ∃t v',Grown [] t∧e=.returned (.tuple #[.agg #[v'.k,v'.c,.int .i64 cT.ah,v'.p,.bool cT.dead,.int .i64 4,.int .i64 1,.int .i64 0,v'.v,v'.t],.agg #[.int .i64 0,.string eh,.int .i64 0]])∧br (mask F w') (Dl t) v'∧Bw w w':=by
 refine (EB xZ v ⟨0,1,0,0,3,⟨#[]⟩⟩ w F hF h (fun d hd=>by simp[xZ] at hd) Pj rfl rfl ⟨by decide,by decide⟩ ⟨by decide,by decide⟩ (by kernel_rfl) (by decide)).mono ?_;rintro e w' ⟨t,hg,v',he,hp,hb⟩;rw[show ({xZ with aw:=fe xZ.aw ⟨1,3,t⟩}:cm)=Dl t by show cm.mk _ _ _ _ (fe [] ⟨1,3,t⟩) _=_;rw[Pt hg (by kernel_rfl) (by kernel_rfl)];rfl] at hp;exact ⟨t,v',hg,he,hp,hb⟩
theorem Pv {t1:ag} (hg:Grown [] t1) (v:PV) (w:World) (F:Nat→Prop) (hF:∀q,w.heap.size≤q→F q) (h:br (mask F w) (Dl t1) v):Calls prog 61 #[.agg #[v.k,v.c,.int .i64 cT.ah,v.p,.bool cT.dead,.int .i64 4,.int .i64 1,.int .i64 0,v.v,v.t],.agg #[.int .i64 4,.int .i64 1,.int .i64 0,.int .i64 2,.int .i64 0,.string ⟨mF.toArray⟩]] w fun e w'=>
 ∃t v',Grown [(2,49)] t∧e=.returned (.tuple #[.agg #[v'.k,v'.c,.int .i64 dm.ah,v'.p,.bool dm.dead,.int .i64 4,.int .i64 1,.int .i64 0,v'.v,v'.t],.agg #[.int .i64 0,.string eh,.int .i64 0]])∧br (mask F w') (eB t) v'∧Bw w w':=by
 have hp:aA t1=[]:=hg.1;have Qp:(findD (Dl t1).aw 1).1=⟨1,3,t1⟩:=by rfl
 have hE:Ex (⟨mF.toArray⟩:ByteArray).data.toList=(z24,true,true):=akT;refine (Ir (Dl t1) v ⟨4,1,0,2,0,⟨mF.toArray⟩⟩ w F hF h (jI hg (by decide) 1 3) (Pk hg) rfl rfl (by kernel_rfl) 0 (1,3) (by rfl) (by rfl) ⟨by decide,by decide⟩ (by decide) ⟨1,3,t1⟩ Qp (by show (aA t1).length≤1999;rw[hp];decide) (by show FQ (aA t1);rw[hp];exact fun x hx=>by simp at hx)
  z24 true hE (by decide) [[(0,1,1,false)],[]] 0 0 Z9 (by kernel_rfl) dm afC (by show (kd (aA t1) 2).2=false;rw[hp];rfl)).mono ?_
 rintro e w' ⟨t,hg2,v',he,hp2,hb⟩;have hg3:Grown [(2,49)] t:=by
  have h9:fB (aA t1) 2 (cD ⟨0,0,(z24.length:Int),true⟩) false=[(2,49)]:=by rw[hp];kernel_rfl
  rw[← h9];exact hg2
 have hq:br (mask F w') ⟨dm,4,1,0,fe [⟨1,3,t1⟩] ⟨1,3,t⟩,[[(0,1,1,false)],[]]⟩ v':=hp2;rw[Pu hg3 (by kernel_rfl) (by kernel_rfl) hg (by kernel_rfl) (by kernel_rfl)] at hq;exact ⟨t,v',hg3,he,hq,hb⟩
theorem aK.ne {b:Nat} {l:List Value} (h:aK W b l):¬W.heap.size=b:=by have:=h.lt;omega
theorem jX {u:World} {a:Nat} {cs:List Value} {T:TypeId} (ha:W.heap.size=a) (hu:W.alloc (.cells cs.toArray T)=u):aK u a cs∧Bw W u:=by subst ha;subst hu;exact ⟨aK.new W cs T,ar⟩
theorem Tr {F:Nat→Prop} {u:World} {x y z:Value} {b:Nat} (h:bN (mask F W) d x y z) (hb:Bw W u) (ha:W.heap.size=b):bN (mask (fun q=>F q∧¬q=b) u) d x y z:=
 h.keeps (aC hb fun q hq hf=>⟨hf,by omega⟩)
def MJ:cm:=⟨⟨[],[],0,[],false⟩,0,0,0,[],[]⟩
def noV:PV:=⟨.slice none 0 0,.slice none 0 0,.slice none 0 0,.slice none 0 0,.slice none 0 0⟩
theorem WL:cG MJ=false:=by
 cases h:cG MJ with
 |false=>rfl
 |true=>have h1:=(bO.1 h).2.2.1;simp[MJ] at h1
theorem aaJ (w:World):br w MJ noV:=
 ⟨⟨lu w 1 kX,lu w 2 ly,iG w,⟨fun x hx=>by simp[MJ] at hx,fun x hx=>by simp[MJ] at hx,by show aQ 0;unfold aQ;omega⟩⟩,⟨none,0,rfl,aT,by unfold maxLen;omega,fun j d hd=>by simp[MJ] at hd⟩,⟨none,0,rfl,aT,by unfold maxLen;omega,fun i x hx=>by simp[MJ] at hx⟩,by simp[MJ,aQ],by simp[MJ,aQ],by simp[MJ,aQ]⟩
theorem Lv:mK MJ = -1:=by unfold mK;rw[WL];rfl
theorem PB (h:Grown [(2,49)] t):mK (eB t)=0:=by
 unfold mK;rw[if_pos (yZ h)];show jY 0 [[(0,1,1,false)],[]] (-1) 0=0
 kernel_rfl
theorem Tv {u:ag} (h:Grown [(2,49)] t) (k:Grown [(2,49)] u):mJ (eB t) (eB u)=true:=by
 unfold mJ;have h1:qZ (eB t).disk (eB u).disk=true:=IZ.2 rfl;have h2:jP (eB t).aw (eB u).aw=true:=by
  show (((((1:Int)==1)&&((3:Int)==3))&&lW (aA t) (aA u))&&true)=true;rw[h.1,k.1]
  kernel_rfl
 have h3:kY (eB t).tabs (eB u).tabs=true:=by kernel_rfl
 rw[h1,h2,h3];rfl
theorem pA {x:aB} (h:cO x=true):bI (kr x)=x:=by
 obtain ⟨h1,h2,h3,h4,h5,h6,h7⟩:=(bL _).1 h;have h8:=iF h3 h4;obtain ⟨c,p,s,b⟩:=x;simp only at h1 h2 h3 h4 h5 h6 h8;cases b with
 |true=>
  have e:kr ⟨c,p,s,true⟩=2*(257*(16*c+p)+s)+1:=rfl;rw[e];unfold bI;congr 1
  ·omega
  ·omega
  ·omega
  ·rw[show (2*(257*(16*c+p)+s)+1)%2=1 by omega];rfl
 |false=>
  have e:kr ⟨c,p,s,false⟩=2*(257*(16*c+p)+s):=Int.add_zero _;rw[e];unfold bI;congr 1
  ·omega
  ·omega
  ·omega
  ·rw[show (2*(257*(16*c+p)+s))%2=0 by omega];rfl
theorem Bo {x y:aB} (h:cO x=true) (k:cO y=true) (e:cD x=cD y):x=y:=by unfold cD at e;rw[if_pos h,if_pos k] at e;rw[← pA h,e,pA k]
theorem I9 {a n:Int} {x:aj}:∀ {l:List aj},x∈l→x∈jn a n l
 |[],h=>by simp at h
 |u::l,h=>by
  unfold jn
  split
  ·exact List.mem_cons_of_mem _ h
  ·rw[List.mem_cons] at h ⊢
   rcases h with h|h
   ·exact .inl h
   ·exact .inr (I9 h)
theorem LF {u:List Bool} {q:Nat} {n:Int} (h:jS u q n=true) {j:Nat} (h1:q≤j) (h2:(j:Int)<q+n):u[j]?=some false:=by
 obtain ⟨_,_,h5⟩:=wH h;unfold jS at h;rw[Bool.and_eq_true,decide_eq_true_eq,List.all_eq_true] at h;have hq:j<u.length:=by omega
 rw[List.getElem?_eq_getElem hq];have hm:u[j]∈(u.drop q).take n.toNat:=by rw[List.mem_iff_getElem?];refine ⟨j-q,?_⟩;rw[List.getElem?_take_of_lt (by omega),List.getElem?_drop,show q+(j-q)=j by omega,List.getElem?_eq_getElem hq]
 have:=h.2 _ hm;simp only[Bool.not_eq_true'] at this;rw[this]
theorem Bp {l:List aj} {n a:Int} (ha:gy (gD l) n=a) (h0:0≤a):∀u∈l,∀z:Int,a≤z→z<a+n→¬(u.1≤z∧z<u.1+u.2.1):=fun u hu z h1 h2 hz=>by
 obtain ⟨q,rfl,hf⟩:=qJ _ _ _ ha h0;obtain ⟨_,_,h5⟩:=wH hf;rw[om] at h5;obtain ⟨k,rfl⟩:∃k:Nat,z=k:=⟨z.toNat,by omega⟩
 have h3:=LF hf (j:=k) (by omega) (by omega);have hq:k<16:=by omega
 unfold gD at h3;rw[List.getElem?_map,List.getElem?_range hq] at h3;simp only[Option.map_some,Option.some.injEq] at h3;rw[List.any_eq_false] at h3;refine h3 u hu ?_;unfold kg;exact decide_eq_true (by omega)
def Sub (t c:List (List aj)):Prop:=c.length=t.length∧∀(i:Nat) u v,t[i]?=some u→c[i]?=some v→∀x∈u,x∈v
theorem Sub.refl (t:List (List aj)):Sub t t:=⟨rfl,fun i u v h k x hx=>by rw[h] at k;cases k;exact hx⟩
def Clear (t:List (List aj)) (n:Int) (y:aB):Prop:=∃(i:Nat) (u:List aj),y.chunk=i∧¬(i:Int)=n∧t[i]?=some u∧0≤y.pos∧y.pos+cg y.size≤16∧∀x∈u,∀z:Int,y.pos≤z→z<y.pos+cg y.size→¬(x.1≤z∧z<x.1+x.2.1)
theorem sR {n:Int} {T:List (List aj)}:∀ {l:List (aB×Int)} {c c':List (List aj)} {f f':Int→Option aB},bH n l (c,f)=some (c',f')→Sub T c→Sub T c'∧∀k y,f' k=some y→f k=some y∨(Clear T n y∧∃x∈l,cD x.1=k∧y.size=x.1.size∧y.packed=x.1.packed)
 |[],c,c',f,f',h,hs=>by unfold bH at h;injection h with h;injection h with h1 h2;subst h1;subst h2;exact ⟨hs,fun k y h=>.inl h⟩
 |x::l,c,c',f,f',h,hs=>by
  unfold bH at h;by_cases e:(bR c (cg x.1.size) n).2.2.2=true
  ·rw[if_pos e] at h
   obtain ⟨_,i,u,h1,h2,h3,h4,h5,h6,h7,h8,h9⟩:=mE e;have hi:=(List.getElem?_eq_some_iff.1 h1).1;have hs1:Sub T (bR c (cg x.1.size) n).1:=by
    rw[h9];refine ⟨by rw[List.length_set];exact hs.1,fun j a b ha hb z hz=>?_⟩;by_cases hj:i=j
    ·subst hj
     rw[List.getElem?_set_self hi] at hb;cases hb;exact I9 (hs.2 i a u ha h1 z hz)
    ·rw[List.getElem?_set_ne hj] at hb
     exact hs.2 j a b ha hb z hz
   obtain ⟨r1,r2⟩:=sR h hs1;refine ⟨r1,fun k y hk=>?_⟩;rcases r2 k y hk with h|⟨h,z,hz,h'⟩
   ·unfold qP at h
    by_cases e2:k=cD x.1
    ·rw[if_pos e2] at h;injection h with h
     right;subst h;obtain ⟨t,ht⟩:=fx (l:=T) (k:=i) (by rw[← hs.1];exact hi);exact ⟨⟨i,t,h3,h2,ht,h4,h5,fun v hv z a b=>Bp h8 h4 v (hs.2 i t u ht h1 v hv) z a b⟩,x,List.mem_cons_self ..,e2.symm,rfl,rfl⟩
    ·rw[if_neg e2] at h;exact .inl h
   ·exact .inr ⟨h,z,List.mem_cons_of_mem _ hz,h'⟩
  ·rw[if_neg e] at h;cases h
def mQ (d d':aO) (Q:Int→Prop):Prop:=∃m:List fq,d'={d with cache:=d.cache++m}∧(∀e∈m,Q e.1)∧fZ d'=true
theorem mQ.refl (h:fZ d=true):mQ d d Q:=⟨[],by rw[List.append_nil],fun e he=>by simp at he,h⟩
theorem mQ.trans {a b c:aO} {R:Int→Prop} (h:mQ a b Q) (k:mQ b c R):mQ a c (fun z=>Q z∨R z):=by
 obtain ⟨m,rfl,h2,_⟩:=h;obtain ⟨l,rfl,k2,k3⟩:=k;exact ⟨m++l,by rw[← List.append_assoc],fun e he=>by
  rcases List.mem_append.1 he with he|he
  ·exact .inl (h2 e he)
  ·exact .inr (k2 e he),k3⟩
theorem mQ.mono {a b:aO} {R:Int→Prop} (h:mQ a b Q) (hq:∀z,Q z→R z):mQ a b R:=by obtain ⟨m,h1,h2,h3⟩:=h;exact ⟨m,h1,fun e he=>hq _ (h2 e he),h3⟩
theorem LG {b:Int} {s:ByteArray} (hm:fZ d=true) (hd:d.dead=false) (hf:d.ah<0):mQ d (cF d b s).1 (fun z=>z=b):=by
 by_cases h:b<0∨(d.kept.length:Int)≤b∨¬s.size=32∨20000≤d.cache.length
 ·rw[Ai hm hd h];exact mQ.refl hm
 ·rw[xI hm hd h hf]
  refine ⟨[(b,s)],rfl,fun e he=>by rw[List.mem_singleton] at he;rw[he],?_⟩;have h0:=(gu d).1 hm;rw[gu];refine ⟨⟨h0.1.1,h0.1.2.1,?_,h0.1.2.2.2⟩,h0.2.1,fun p hp=>?_⟩
  ·show (d.cache++[(b,s)]).length≤20000
   rw[List.length_append,List.length_singleton];omega
  ·have LU:p∈d.cache++[(b,s)]:=hp
   rcases List.mem_append.1 LU with LU|LU
   ·exact h0.2.2 p LU
   ·rw[List.mem_singleton] at LU
    subst LU;exact ⟨by show 0≤b;omega,by show b<d.kept.length;omega,by show s.size=32;omega⟩
theorem yh:∀(k:Nat) {d:aO} {a b left:Int},fZ d=true→d.dead=false→d.ah<0→mQ d (gM k d a b left).1 (fun z=>b≤z∧z<b+k)
 |0,d,a,b,left,hm,hd,hf=>mQ.refl hm
 |k+1,d,a,b,left,hm,hd,hf=>by
  unfold gM
  split
  ·exact mQ.refl hm
  ·split
   ·exact mQ.refl hm
   ·have hg:=LG (b:=b) (s:=kQ (gw d a).1 left) hm hd hf
    split
    ·exact hg.mono fun z hz=>by omega
    ·have hg2:=hg
     obtain ⟨m,e,_,zi⟩:=hg2;have h3:=yh k (d:=(cF d b (kQ (gw d a).1 left)).1) (a:=a+1) (b:=b+1) (left:=left-32) zi (by rw[e];exact hd) (by rw[e];exact hf);exact (hg.trans h3).mono fun z hz=>by omega
theorem nK {met:Int} {f:Int→Option aB}:∀(l:List (aB×Int)) {d:aO},fZ d=true→d.dead=false→d.ah<0→mQ d (bB met f l d).1 (fun z=>∃x∈l,2+2*met+16*((f (cD x.1)).getD aB.zero).chunk+((f (cD x.1)).getD aB.zero).pos≤z∧z<2+2*met+16*((f (cD x.1)).getD aB.zero).chunk+((f (cD x.1)).getD aB.zero).pos+(cg x.1.size).toNat)
 |[],d,hm,hd,hf=>mQ.refl hm
 |x::l,d,hm,hd,hf=>by
  unfold bB;have hg:mQ d (mC met d x.1 ((f (cD x.1)).getD aB.zero)).1 _:=yh _ hm hd hf
  split
  ·exact hg.mono fun z hz=>⟨x,List.mem_cons_self ..,hz⟩
  ·have hg2:=hg
   obtain ⟨m,e,_,zi⟩:=hg2;have h3:=nK (met:=met) (f:=f) l (d:=(mC met d x.1 ((f (cD x.1)).getD aB.zero)).1) zi (by rw[e];exact hd) (by rw[e];exact hf);refine (hg.trans h3).mono fun z hz=>?_;rcases hz with hz|⟨y,hy,hz⟩
   ·exact ⟨x,List.mem_cons_self ..,hz⟩
   ·exact ⟨y,List.mem_cons_of_mem _ hy,hz⟩
def Ja (p:cm) (z:Int):Prop:=∃(i:Nat) (u:List aj),0≤z-(2+2*p.met)∧(z-(2+2*p.met))/16=i∧p.tabs[i]?=some u∧∀x∈u,¬(x.1≤(z-(2+2*p.met))%16∧(z-(2+2*p.met))%16<x.1+x.2.1)
theorem LH (n:Int) (hm:cG p=true) (hd:p.disk.dead=false) (hf:p.disk.ah<0):mQ p.disk (dC p n).1.disk (Ja p):=by
 have hk:=(bO.1 hm).1;unfold dC;rw[if_neg (by rw[hm];simp),if_neg (by rw[hd];simp)]
 split
 ·exact mQ.refl hk
 cases ht:bH n (bC p.aw n) (p.tabs,fun _=>none) with
 |none=>exact mQ.refl hk
 |some s=>
  obtain ⟨c,f⟩:=s;have Ut:oC p.tabs:=fun t ht=>by have h:=(bO.1 hm).2.1;unfold cI at h;simp only[Bool.and_eq_true,List.all_eq_true] at h;have:=gP (h.1 t ht);omega
  have hF:=(nJ ht Ut).2.2.2;have hC:=(sR ht (Sub.refl _)).2;have key:mQ p.disk (bB p.met f (bC p.aw n) p.disk).1 (Ja p):=by
   refine (nK (bC p.aw n) hk hd hf).mono fun z hz=>?_;obtain ⟨x,hx,h1,h2⟩:=hz;obtain ⟨y,hy⟩:=hF x hx;rw[hy] at h1 h2;simp only[Option.getD_some] at h1 h2;rcases hC _ _ hy with h|⟨⟨i,u,e1,e2,e3,e4,e5,e6⟩,x',ji,g1,g2,_⟩
   ·cases h
   ·have hxx:x'.1=x.1:=Bo (ky ji).1 (ky hx).1 g1
    rw[hxx] at g2;have hs:=(bL _).1 (ky hx).1;have hs2:=iF hs.2.2.1 hs.2.2.2.1;rw[← g2] at hs2 h2;rw[e1] at h1 h2;refine ⟨i,u,by omega,by omega,e3,fun v hv=>?_⟩;refine e6 v hv _ ?_ ?_
    ·omega
    ·omega
  dsimp only
  split
  ·exact key
  ·exact key
theorem kR (h:gT p=true):bM p.aw∧p.disk.kept.length≤200∧p.disk.cache.length≤200∧p.disk.keep.length≤400∧p.tabs.length≤40∧(∀t∈p.tabs,t.length≤40)∧p.aw.length≤8:=by obtain ⟨h1,h2,h3,h4⟩:=Ce.1 h;unfold tT at h1;unfold lH at h3;simp only[decide_eq_true_eq,Bool.and_eq_true,List.all_eq_true] at h1 h3;exact ⟨Cg h2,h1.1,h1.2.1,h1.2.2,h3.2,h3.1,h4⟩
theorem br.rows {w:World} {v:PV} (h:br w p v):∃pk ck pc cc pp cp pv cv pt ct,v=⟨.slice pk p.disk.kept.length ck,.slice pc p.disk.cache.length cc,.slice pp p.disk.keep.length cp,.slice pv p.aw.length cv,.slice pt p.tabs.length ct⟩:=by obtain ⟨vk,vc,vp,vv,vt⟩:=v;obtain ⟨pk,ck,e1,_,_⟩:=h.disk.kept.slice;obtain ⟨pc,cc,e2,_,_⟩:=h.disk.cache.slice;obtain ⟨pp,cp,e3,_,_⟩:=h.disk.keep.slice;obtain ⟨pv,cv,e4,_⟩:=h.aw;obtain ⟨pt,ct,e5,_⟩:=h.tabs;simp only at e1 e2 e3 e4 e5;subst e1;subst e2;subst e3;subst e4;subst e5;exact ⟨pk,ck,pc,cc,pp,cp,pv,cv,pt,ct,rfl⟩
end Go.Proofs.YtbigkioechkngaaGreat
namespace Go.Proofs.YtbigkioechkngaaGreat
open Go.ChangeShapes Go.WideShapes Go.ChangeAt Go.RowKit
theorem sS {H:Type} {enc:TypeId×Value→H} {P:Program} (hl:laidOutB P=true) {W W':World} (hb:Bw W W') :
 ∀(ts:List TypeId) (vs:List Value) (ds:List (DataW H)) (p:List MemPlace),(∀t∈ts,P.readableRec t=true∧t<P.types.size) →
  DataW.TrodAll enc P W 0 (fun _=>true) true ts vs ds p→(∀x∈p,x.block<W.heap.size)→DataW.TrodAll enc P W' 0 (fun b=>decide (b<W.heap.size)) true ts vs ds p
 |[],[],[],p,_,h,_=>h
 |t::ts,v::vs,d::ds,p,ht,h,hp=>by obtain ⟨p1,p2,h1,h2,rfl⟩:=h;refine ⟨p1,p2,Below.trod hl (ht t (by simp)).1 (ht t (by simp)).2 h1 hb (fun x hx=>hp x (by simp[hx])),?_,rfl⟩;exact sS hl hb ts vs ds p2 (fun t h=>ht t (by simp[h])) h2 (fun x hx=>hp x (by simp[hx]))
 |[],_::_,_,_,_,h,_=>by cases h
 |[],[],_::_,_,_,h,_=>by cases h
 |_::_,[],_,_,_,h,_=>by cases h
 |_::_,_::_,[],_,_,h,_=>by cases h
theorem TJ {H:Type} {enc:TypeId×Value→H} {P:Program} (hl:laidOutB P=true) {f:Func} {s:ChangeSpec} {W W':World} {args:Array Value} {ds gs:List (DataW H)} {before:List MemPlace} {t4:TypeId}
 (hts:∀t∈f.params.toList,P.readableRec t=true∧t<P.types.size) (agM:s.vars=[]) (hres:f.resultTypes = #[t4]) (h4:P.underlying t4=some .bool)
 (hW:DataW.Whole enc P f.params.toList s.vars false W args.toList ds gs before) (hb:Bw W W')
 (hfn:s.fn H (ds++gs)={results:=[.lit (.bool true)],args:=ds}) :
 s.post enc P f false true false false W args (.bool true) W':=by
 have hW':=hW;obtain ⟨p,q,hA,hV,rfl,hz,hn⟩:=hW;have hlt:∀x∈p,x.block<W.heap.size:=fun x hx=>by simpa using hW'.lt x (by simp[hx])
 refine ⟨ds,gs,p++q,[],p,[],hW',?_,?_,?_,hb.frame _,fun h=>by cases h⟩
 ·rw[hres,hfn]
  exact trodAll_mk1 (shut_bool h4 _)
 ·rw[hfn]
  exact sS hl hb _ _ _ _ hts hA hlt
 ·rw[agM,hfn];rfl
end Go.Proofs.YtbigkioechkngaaGreat
namespace Go.Proofs.YtbigkioechkngaaGreat
open Go.Stop Go.ChangeShapes Go.WideShapes Go.ChangeAt Go.RowKit
theorem own:ownKnob Tryz.prog.godebug=none:=by kernel_rfl
theorem laidOut:laidOutB Tryz.prog=true:=by kernel_rfl
theorem TM (W:World):laidMetH Tryz.prog [] W:=by show laidMet Tryz.prog [] W;refine ⟨[],?_,List.nodup_nil,fun b off h=>by simp at h⟩;simp[DataW.LaidVars]
theorem Bv {n:Int} (h:(Lit.int .i64 n).wf=true) : -9223372036854775808≤n∧n≤9223372036854775807:=Br h
noncomputable def DR (os:Os):World:=World.holding Tryz.prog os ⟨#[],#[],[]⟩
end Go.Proofs.YtbigkioechkngaaGreat
namespace Go.Proofs.YtbigkioechkngaaGreat
open Go.RowKit Go.ChangeShapes Go.WideShapes Go.Deep
variable {cs:List Value}{n:Nat}{v:Value}
section
variable {H:Type} {enc:TypeId×Value→H} {w:World} {spare:Nat→Bool} {held:Bool}
theorem DT:Tryz.prog.cellsOf 9=1:=by kernel_rfl
theorem tY:Tryz.prog.cellsOf 4=1:=by kernel_rfl
theorem P2:Tryz.prog.cellsOf 47=2:=by kernel_rfl
theorem P3:Tryz.prog.cellsOf 52=4:=by kernel_rfl
theorem LM:Tryz.prog.cellsOf 45=1:=by kernel_rfl
theorem LN:Tryz.prog.cellsOf 30=10:=by kernel_rfl
theorem LO:Tryz.prog.cellsOf 26=5:=by kernel_rfl
theorem LP:Tryz.prog.cellsOf 22=1:=by kernel_rfl
theorem LQ:Tryz.prog.cellsOf 23=1:=by kernel_rfl
theorem Ji:Tryz.prog.cellsOf 24=1:=by kernel_rfl
theorem Jj:Tryz.prog.cellsOf 27=1:=by kernel_rfl
theorem Jk:Tryz.prog.cellsOf 28=1:=by kernel_rfl
theorem TP {u:Value} {y:DataW H×List MemPlace} (h:DataW.trod enc Tryz.prog w 0 spare held n 9 [u]=some y):∃s:ByteArray,u=.string s∧s.size≤maxLen:=by obtain ⟨s,e,_,b⟩:=DataW.trod_string Tryz.underlying9 h;exact ⟨s,List.head_eq_of_cons_eq e,b⟩
theorem E9 {u:Value} {y:DataW H×List MemPlace} (h:DataW.trod enc Tryz.prog w 0 spare held n 4 [u]=some y):∃b:Bool,u=.bool b:=by obtain ⟨b,e,_⟩:=DataW.trod_bool Tryz.underlying4 h;exact ⟨b,List.head_eq_of_cons_eq e⟩
theorem P4 {y:DataW H×List MemPlace} (h:DataW.trod enc Tryz.prog w 0 spare held n 22 [v]=some y):∃l:List ByteArray,dw w v 1 kX l∧∀s∈l,s.size≤maxLen:=by
 rcases iD Tryz.underlying22 DT (by omega) h with h0|⟨g,o,len,cap,n',_,hv,hl,hm,hf⟩
 ·exact ⟨[],by rw[h0];exact lu w 1 kX,fun s hs=>by simp at hs⟩
 ·obtain ⟨l,pC,hp⟩:=nj len (fun i (s:ByteArray)=>s.size≤maxLen∧w.cell? ⟨g,o+i,none⟩=some (.string s)) (fun i hi=>by
   obtain ⟨cs,qC,hat,y',hy⟩:=hf i hi
   match cs,qC with
   |[u],_=>
    obtain ⟨s,rfl,hs⟩:=TP hy;exact ⟨s,hs,by have:=hat 0 _ rfl;rw[Nat.mul_one,Nat.add_zero] at this;exact this⟩)
  rcases hv with hv|⟨h0,a,hv⟩
  ·refine ⟨l,⟨_,cap,by rw[pC];exact hv,by rw[pC];exact hl,hm,(fun e=>by cases e),fun i s hs=>⟨g,o,rfl,fun j u hj=>?_⟩⟩,fun s hs=>?_⟩
   ·match j with
    |0=>simp only[kX,List.getElem?_cons_zero,Option.some.injEq] at hj;subst hj;rw[Nat.mul_one,Nat.add_zero];exact (hp i s hs).2
    |j+1=>simp[kX] at hj
   ·obtain ⟨i,hi⟩:=List.mem_iff_getElem?.1 hs
    exact (hp i s hi).1
  ·subst h0
   obtain rfl:l=[]:=List.eq_nil_of_length_eq_zero pC;exact ⟨[],⟨_,cap,hv,dO,hm,(fun e=>by cases e),fun i d hd=>by simp at hd⟩,fun s hs=>by simp at hs⟩
theorem TQ {y:DataW H×List MemPlace} (h:DataW.trod enc Tryz.prog w 0 spare held n 24 [v]=some y):∃l:List Bool,dy w v l:=by
 rcases iD Tryz.underlying24 tY (by omega) h with h0|⟨g,o,len,cap,n',_,hv,hl,hm,hf⟩
 ·exact ⟨[],by rw[h0];exact iG w⟩
 ·obtain ⟨l,pC,hp⟩:=nj len (fun i (b:Bool)=>w.cell? ⟨g,o+i,none⟩=some (.bool b)) (fun i hi=>by
   obtain ⟨cs,qC,hat,y',hy⟩:=hf i hi
   match cs,qC with
   |[u],_=>
    obtain ⟨b,rfl⟩:=E9 hy;exact ⟨b,by have:=hat 0 _ rfl;rw[Nat.mul_one,Nat.add_zero] at this;exact this⟩)
  rcases hv with hv|⟨h0,a,hv⟩
  ·exact ⟨l,_,cap,by rw[pC];exact hv,by rw[pC];exact hl,hm,(fun e=>by cases e),fun i b hb=>⟨g,o,rfl,hp i b hb⟩⟩
  ·subst h0
   obtain rfl:l=[]:=List.eq_nil_of_length_eq_zero pC;exact ⟨[],_,cap,hv,dO,hm,(fun e=>by cases e),fun i d hd=>by simp at hd⟩
theorem TR {y:DataW H×List MemPlace} (hl:cs.length=2) (h:DataW.trod enc Tryz.prog w 0 spare held n 47 cs=some y):∃p:fq,cs=ly p∧aQ p.1∧p.2.size≤maxLen:=by
 match cs,hl with
 |[c0,c1],_=>obtain ⟨xs,m,rfl,_,_,hlen,hf⟩:=DataW.trod_struct Tryz.underlying47 h;have BN:DataW.trod enc Tryz.prog w 0 spare held m 3 [c0]=xs[0]?:=cA (j:=0) (T:=3) (off:=0) rfl gC hf;have Jh:DataW.trod enc Tryz.prog w 0 spare held m 9 [c1]=xs[1]?:=cA (j:=1) (T:=9) (off:=1) rfl DT hf;have BD:xs.length=2:=hlen;rw[List.getElem?_eq_getElem (by omega)] at BN Jh;obtain ⟨i,rfl,hi⟩:=mM BN;obtain ⟨s,rfl,hs⟩:=TP Jh;exact ⟨(i,s),rfl,hi,hs⟩
theorem P6 {y:DataW H×List MemPlace} (h:DataW.trod enc Tryz.prog w 0 spare held n 23 [v]=some y):∃l:List fq,dw w v 2 ly l∧∀p∈l,aQ p.1∧p.2.size≤maxLen:=by
 rcases iD Tryz.underlying23 P2 (by omega) h with h0|⟨g,o,len,cap,n',_,hv,hl,hm,hf⟩
 ·exact ⟨[],by rw[h0];exact lu w 2 ly,fun s hs=>by simp at hs⟩
 ·obtain ⟨l,pC,hp⟩:=nj len (fun i (p:fq)=>(aQ p.1∧p.2.size≤maxLen)∧∀(j:Nat) u,(ly p)[j]?=some u→w.cell? ⟨g,o+(i*2+j),none⟩=some u) (fun i hi=>by
   obtain ⟨cs,qC,hat,y',hy⟩:=hf i hi;obtain ⟨p,rfl,hb⟩:=TR qC hy;exact ⟨p,hb,hat⟩)
  rcases hv with hv|⟨h0,a,hv⟩
  ·refine ⟨l,⟨_,cap,by rw[pC];exact hv,by rw[pC];exact hl,hm,(fun e=>by cases e),fun i p hpp=>⟨g,o,rfl,fun j u hj=>?_⟩⟩,fun p hpp=>?_⟩
   ·have:=(hp i p hpp).2 j u hj
    rw[← Nat.add_assoc] at this;exact this
   ·obtain ⟨i,hi⟩:=List.mem_iff_getElem?.1 hpp
    exact (hp i p hi).1
  ·subst h0
   obtain rfl:l=[]:=List.eq_nil_of_length_eq_zero pC;exact ⟨[],⟨_,cap,hv,dO,hm,(fun e=>by cases e),fun i d hd=>by simp at hd⟩,fun s hs=>by simp at hs⟩
theorem TS {y:DataW H×List MemPlace} (hl:cs.length=4) (h:DataW.trod enc Tryz.prog w 0 spare held n 52 cs=some y):∃x:aj,cs=[.int .i64 x.1,.int .i64 x.2.1,.int .i64 x.2.2.1,.bool x.2.2.2]:=by
 match cs,hl with
 |[c0,c1,c2,c3],_=>obtain ⟨xs,m,rfl,_,_,hlen,hf⟩:=DataW.trod_struct Tryz.underlying52 h;have BN:DataW.trod enc Tryz.prog w 0 spare held m 3 [c0]=xs[0]?:=cA (j:=0) (T:=3) (off:=0) rfl gC hf;have Jh:DataW.trod enc Tryz.prog w 0 spare held m 3 [c1]=xs[1]?:=cA (j:=1) (T:=3) (off:=1) rfl gC hf;have Cm:DataW.trod enc Tryz.prog w 0 spare held m 3 [c2]=xs[2]?:=cA (j:=2) (T:=3) (off:=2) rfl gC hf;have Mf:DataW.trod enc Tryz.prog w 0 spare held m 4 [c3]=xs[3]?:=cA (j:=3) (T:=4) (off:=3) rfl tY hf;have BD:xs.length=4:=hlen;rw[List.getElem?_eq_getElem (by omega)] at BN Jh Cm Mf;obtain ⟨i,rfl,_⟩:=mM BN;obtain ⟨j,rfl,_⟩:=mM Jh;obtain ⟨k,rfl,_⟩:=mM Cm;obtain ⟨b,rfl⟩:=E9 Mf;exact ⟨(i,j,k,b),rfl⟩
theorem P7 {y:DataW H×List MemPlace} (h:DataW.trod enc Tryz.prog w 0 spare held n 45 [v]=some y):∃l:List aj,dA w v l:=by
 rcases iD Tryz.underlying45 P3 (by omega) h with h0|⟨g,o,len,cap,n',_,hv,hl,hm,hf⟩
 ·exact ⟨[],none,0,h0,aT,dO,fun i d hd=>by simp at hd⟩
 ·obtain ⟨l,pC,hp⟩:=nj len (fun i (x:aj)=>U4 g (o+i*4) x.1 x.2.1 x.2.2.1 x.2.2.2 w) (fun i hi=>by
   obtain ⟨cs,qC,hat,y',hy⟩:=hf i hi;obtain ⟨x,rfl⟩:=TS qC hy;exact ⟨x,hat 0 _ rfl,hat 1 _ rfl,hat 2 _ rfl,hat 3 _ rfl⟩)
  rcases hv with hv|⟨h0,a,hv⟩
  ·exact ⟨l,_,cap,by rw[pC];exact hv,by rw[pC];exact hl,hm,fun i x hx=>⟨g,o,rfl,hp i x hx⟩⟩
  ·subst h0
   obtain rfl:l=[]:=List.eq_nil_of_length_eq_zero pC;exact ⟨[],_,cap,hv,dO,hm,fun i d hd=>by simp at hd⟩
theorem P8 {y:DataW H×List MemPlace} (h:DataW.trod enc Tryz.prog w 0 spare held n 28 [v]=some y):∃l:List (List aj),dH w v l:=by
 rcases iD Tryz.underlying28 LM (by omega) h with h0|⟨g,o,len,cap,n',_,hv,hl,hm,hf⟩
 ·exact ⟨[],none,0,h0,aT,dO,fun i d hd=>by simp at hd⟩
 ·obtain ⟨l,pC,hp⟩:=nj len (fun i (x:List aj)=>∃u,w.cell? ⟨g,o+i,none⟩=some u∧dA w u x) (fun i hi=>by
   obtain ⟨cs,qC,hat,y',hy⟩:=hf i hi
   match cs,qC with
   |[u],_=>
    obtain ⟨x,hx⟩:=P7 hy;exact ⟨x,u,by have:=hat 0 _ rfl;rw[Nat.mul_one,Nat.add_zero] at this;exact this,hx⟩)
  rcases hv with hv|⟨h0,a,hv⟩
  ·exact ⟨l,_,cap,by rw[pC];exact hv,by rw[pC];exact hl,hm,fun i x hx=>by
    obtain ⟨u,h1,h2⟩:=hp i x hx;exact ⟨g,o,u,rfl,h1,h2⟩⟩
  ·subst h0
   obtain rfl:l=[]:=List.eq_nil_of_length_eq_zero pC;exact ⟨[],_,cap,hv,dO,hm,fun i d hd=>by simp at hd⟩
theorem P9 {y:DataW H×List MemPlace} (hl:cs.length=5) (h:DataW.trod enc Tryz.prog w 0 spare held n 26 cs=some y):∃(d:aO) (vk vc vp:Value),cs=[vk,vc,.int .i64 d.ah,vp,.bool d.dead]∧bN w d vk vc vp:=by
 match cs,hl with
 |[c0,c1,c2,c3,c4],_=>obtain ⟨xs,m,rfl,_,_,hlen,hf⟩:=DataW.trod_struct Tryz.underlying26 h;have BN:DataW.trod enc Tryz.prog w 0 spare held m 22 [c0]=xs[0]?:=cA (j:=0) (T:=22) (off:=0) rfl LP hf;have Jh:DataW.trod enc Tryz.prog w 0 spare held m 23 [c1]=xs[1]?:=cA (j:=1) (T:=23) (off:=1) rfl LQ hf;have Cm:DataW.trod enc Tryz.prog w 0 spare held m 3 [c2]=xs[2]?:=cA (j:=2) (T:=3) (off:=2) rfl gC hf;have Mf:DataW.trod enc Tryz.prog w 0 spare held m 24 [c3]=xs[3]?:=cA (j:=3) (T:=24) (off:=3) rfl Ji hf;have h4':DataW.trod enc Tryz.prog w 0 spare held m 4 [c4]=xs[4]?:=cA (j:=4) (T:=4) (off:=4) rfl tY hf;have BD:xs.length=5:=hlen;rw[List.getElem?_eq_getElem (by omega)] at BN Jh Cm Mf h4';obtain ⟨kept,hk,hk2⟩:=P4 BN;obtain ⟨cache,hc,hc2⟩:=P6 Jh;obtain ⟨f,rfl,hf2⟩:=mM Cm;obtain ⟨keep,hp⟩:=TQ Mf;obtain ⟨b,rfl⟩:=E9 h4';exact ⟨⟨kept,cache,f,keep,b⟩,c0,c1,c3,rfl,hk,hc,hp,hk2,hc2,hf2⟩
theorem Qa {y:DataW H×List MemPlace} (hl:cs.length=10) (h:DataW.trod enc Tryz.prog w 0 spare held n 30 cs=some y):∃(p:cm) (v:PV),.agg cs.toArray=eY p v∧br w p v:=by
 match cs,hl with
 |[c0,c1,c2,c3,c4,c5,c6,c7,c8,c9],_=>obtain ⟨xs,m,rfl,_,_,hlen,hf⟩:=DataW.trod_struct Tryz.underlying30 h;have BN:DataW.trod enc Tryz.prog w 0 spare held m 26 [c0,c1,c2,c3,c4]=xs[0]?:=cA (j:=0) (T:=26) (off:=0) rfl LO hf;have Jh:DataW.trod enc Tryz.prog w 0 spare held m 3 [c5]=xs[1]?:=cA (j:=1) (T:=3) (off:=5) rfl gC hf;have Cm:DataW.trod enc Tryz.prog w 0 spare held m 3 [c6]=xs[2]?:=cA (j:=2) (T:=3) (off:=6) rfl gC hf;have Mf:DataW.trod enc Tryz.prog w 0 spare held m 3 [c7]=xs[3]?:=cA (j:=3) (T:=3) (off:=7) rfl gC hf;have h4':DataW.trod enc Tryz.prog w 0 spare held m 27 [c8]=xs[4]?:=cA (j:=4) (T:=27) (off:=8) rfl Jj hf;have h5':DataW.trod enc Tryz.prog w 0 spare held m 28 [c9]=xs[5]?:=cA (j:=5) (T:=28) (off:=9) rfl Jk hf;have BD:xs.length=6:=hlen;rw[List.getElem?_eq_getElem (by omega)] at BN Jh Cm Mf h4' h5';obtain ⟨d,vk,vc,vp,e,hd⟩:=P9 rfl BN;simp only[List.cons.injEq,and_true] at e;obtain ⟨rfl,rfl,rfl,rfl,rfl⟩:=e;obtain ⟨a,rfl,ha⟩:=mM Jh;obtain ⟨b,rfl,hb⟩:=mM Cm;obtain ⟨c,rfl,hc⟩:=mM Mf;obtain ⟨vs,hv⟩:=P1 h4';obtain ⟨ts,ht⟩:=P8 h5';exact ⟨⟨d,a,b,c,vs,ts⟩,⟨c0,c1,c3,c8,c9⟩,rfl,hd,hv,ht,ha,hb,hc⟩
theorem LR {r:Reach} {b0:Nat} {d:DataW H} {ps:List MemPlace} (hv:Value.okWide Tryz.prog w r b0 30 v) (h:DataW.Trod enc Tryz.prog w 0 spare held 30 v d ps):∃(p:cm) (u:PV),v=eY p u∧br w p u:=by obtain ⟨cs,rfl,hs⟩:=okWide_struct Tryz.underlying30 hv;rw[LN] at hs;obtain ⟨fuel,h⟩:=h;have h':DataW.trod enc Tryz.prog w 0 spare held fuel 30 cs.toList=some (d,ps):=h;exact Qa (n:=fuel) (by simpa using hs) h'
end
end Go.Proofs.YtbigkioechkngaaGreat
