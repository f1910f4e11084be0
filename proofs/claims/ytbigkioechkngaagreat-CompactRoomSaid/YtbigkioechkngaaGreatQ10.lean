/- The proof, part 11. -/
import Derived.Test.YtbigkioechkngaaGreatQ8
set_option maxRecDepth 100000
set_option maxHeartbeats 8000000
namespace Go.Proofs.YtbigkioechkngaaGreat
open Go.RowKit Go.Shelf
attribute [local go_sem] Oper.semAt_some
def Nb (x:Nat×Nat):Array Value := #[.int .i64 x.1,.int .i64 x.2]
theorem Ph (p:Option Addr) (n c:Nat) (w:World):Calls Tryz.prog 162 #[.slice p n c] w fun e w'=>e=.returned (.func (.func 199) #[] #[.pointer (some ⟨w.heap.size,0,none⟩)])∧w'=w.alloc (.cells #[.slice p n c] 24):=by go_enter Tryz.func162,Tryz.ntmps162;go_wp2_with fail;go_ret;exact ⟨rfl,rfl⟩
theorem Tq (n B:Nat) (M₀:Nat→Prop) (u:List Bool) (p:Option Addr) (c:Nat) (w:World) (hc:w.cell? ⟨B,0,none⟩=some (.slice p u.length c)) (hB:M₀ B) (hlen:u.length≤1000000)
 (hrow:∀(i:Nat) (x:Bool),u[i]?=some x→∃g o,p=some ⟨g,o,none⟩∧M₀ g∧w.cell? ⟨g,o+i,none⟩=some (.bool x)) :
 NB n Tryz.prog 199 #[.pointer (some ⟨B,0,none⟩)] Nb M₀ (jl u 0) w:=by
 intro l' J Jx W hW Ms hJ2 hY h0;have c0:=ae hW hc;have bY:=aa (fun (i:Nat) (x:Bool) (hx:u[i]?=some x)=>show ∃g o,p=some ⟨g,o,none⟩∧M₀ g∧W.cell? ⟨g,o+i,none⟩=some (.bool x) by
  obtain ⟨g,o,h1,h2,h3⟩:=hrow i x hx;exact ⟨g,o,h1,h2,ae hW h3⟩)
 have H1:=aa Ms;have HY:=aa hY;have H0:=aa h0;have zr:=aa hB;obtain ⟨N,hN⟩:=aG u.length;rw[hN] at c0 hlen;have HN:=aa hN;have Kf:=aa c0;have hlc:(N:Int)≤1000000:=by omega
 clear hc hrow hW Ms hJ2 hY h0 hB hN hlen;refine callsIn_of_wp Tryz.func199 rfl trivial ?_ rfl;simp only[Tryz.ntmps199,List.size_toArray,List.length_cons,List.length_nil,Nat.reduceAdd,Nat.reduceSub,Array.replicate_succ,Array.replicate_zero,List.push_toArray,List.append_toArray,List.nil_append,List.cons_append];gi_wp2_with fail;clear c0;gi_loopw [3,4] (fun i _ wr=>∃(k:Nat) (pre:List (Nat×Nat)),k≤N+1∧i=.int .i64 k∧jl u 0=pre++jl u k∧J M₀ pre wr∧fA M₀ W wr) (fun i _ _=>N+1-(intOf i).toNat)
 case atStart=>exact ⟨0,[],dQ,rfl,rfl,H0,fA.refl _ _⟩
 case round=>
  obtain ⟨k,pre,hk,rfl,heq,hj,tF⟩:=hrel;have xT:=aa heq;have CR:=aa hj;have kg:=aa tF;have sb:=kg.cell (a:=⟨B,0,none⟩) zr Kf.o;clear heq hj tF;by_cases hlt:k<N
  case neg=>have HT:=aa (show jl u 0=pre by rw[xT.o,sj (by rw[HN.o];omega),List.append_nil]);have hd:decide ((k:Int)<(N:Int))=false:=decide_eq_false (by omega);have Rj:decide (k<N)=false:=decide_eq_false hlt;gi_wp2_with fail;go_end0;exact ⟨⟨_,rfl⟩,Or.inl ⟨_,by rw[HT.o];exact CR⟩⟩
  have fO:(k:Int)<(N:Int):=by omega
  have WB:decide ((k:Int)<(N:Int))=true:=decide_eq_true fO;obtain ⟨z,hz⟩:=aG (pZ (u.drop k));have HZ:=aa hz;have MO:=aa (I3 (by rw[HN.o];exact hlt) hz);have hzn:k+z≤N:=by have:=E6 (u.drop k);rw[hz,List.length_drop,HN.o] at this;omega
  have Vu:=aa (show ∀j,j<z→u[k+j]?=some false from fun j hj=>by rw[← List.getElem?_drop];exact xg _ j (by rw[hz];exact hj));have HST:=aa (show k+z<N→u[k+z]?=some true from fun hl=>by rw[← List.getElem?_drop,← hz];exact xh _ (by rw[hz,List.length_drop,HN.o];omega));clear hz;gi_wp2_with fail;obtain ⟨wo,rfl⟩:∃wo,wo=wr:=⟨_,rfl⟩
  have mA:=aa sb;clear sb;gi_loopw [4] (fun i wz=>∃j:Nat,j≤z∧i=.int .i64 j∧wz=wo) (fun i _=>z-(intOf i).toNat)
  case atStart=>exact ⟨0,dQ,rfl,rfl⟩
  case round=>
   obtain ⟨j,hj,rfl,rfl⟩:=hrel;have sb:=mA.o;have hjk:(k:Int)+(j:Int)≤2000000:=by omega
   have asX:(0:Int)≤(k:Int)+(j:Int):=(by omega);by_cases hjz:j<z
   case pos=>
    obtain ⟨g,o,rfl,NJ,r0⟩:=bY.o (k+j) false (Vu j hjz);have s0:=kg.cell (a:=⟨g,o+(k+j),none⟩) NJ r0;have Pd:(k:Int)+(j:Int)<(N:Int):=by omega
    have pX:decide ((k:Int)+(j:Int)<(N:Int))=true:=decide_eq_true Pd;have zQ:decide (k+j<N)=true:=decide_eq_true (by omega);clear r0 NJ;gi_wp2_with fail;go_roundw
    case rel=>exact ⟨j+1,by omega,by go_num,by first|rfl|trivial⟩
    case measure=>simp[intOf];omega
   case neg=>
    obtain rfl:j=z:=by omega
    have HKJ:=aa hzn;by_cases hend:k+j<N
    case pos=>
     obtain ⟨g,o,rfl,NJ,r0⟩:=bY.o (k+j) true (HST hend);have s0:=kg.cell (a:=⟨g,o+(k+j),none⟩) NJ r0;have Pd:(k:Int)+(j:Int)<(N:Int):=by omega
     have pX:decide ((k:Int)+(j:Int)<(N:Int))=true:=decide_eq_true Pd;have zQ:decide (k+j<N)=true:=decide_eq_true hend;clear r0 NJ;by_cases R7:0<j
     case neg=>
      obtain rfl:j=0:=by omega
      have wC:=aa (show jl u 0=pre++jl u (k+0+1) by rw[xT.o,MO.o,if_neg (by omega),List.nil_append]);have Q2:decide ((0:Int)<((0:Nat):Int))=false:=rfl;rw[Nat.add_zero] at s0;clear Pd pX zQ;gi_wp2_with fail
      case h_2=>
       refine ⟨fun f h=>(by cases h),?_⟩;gi_wp2_with fail;go_roundw
       case rel=>exact ⟨k+0+1,pre,by omega,by go_num,wC.o,CR.o,kg.o⟩
       case measure=>simp[intOf];omega
     case pos=>
      have hj1:(0:Int)<(j:Int):=(by omega);have Q2:decide ((0:Int)<(j:Int))=true:=decide_eq_true hj1;have EB:decide (0<j)=true:=decide_eq_true R7;have wC:=aa (show jl u 0=(pre++[(k,j)])++jl u (k+j+1) by rw[xT.o,MO.o,if_pos R7,List.append_assoc]);obtain ⟨fn,tmps,assign,body,Rt,hR⟩:=HY.o (n-1) _ _ (k,j) _ CR (by rw[wC.o];exact List.prefix_append _ _);simp only[Nb] at Rt;gi_wp2_with fail;refine ⟨fun h=>(by cases h),?_⟩;refine hR.mono ?_;rintro e W4 (⟨rfl,Mu,hk4⟩|⟨rfl,Mv⟩)
      ·have Rx:=aa Mu;have NF:=aa (kg.trans hk4)
       clear Mu hk4 sb
       try clear s0
       gi_wp2_with fail;go_roundw
       case rel=>exact ⟨k+j+1,pre++[(k,j)],by omega,by go_num,wC.o,Rx.o,NF.o⟩
       case measure=>simp[intOf];omega
      ·have jQ:=aa Mv
       clear Mv sb
       try clear s0
       gi_wp2_with fail;refine bodyPost_ret (results_none rfl _ _ _) rfl ?_;exact ⟨⟨_,rfl⟩,Or.inr ⟨pre++[(k,j)],by rw[wC.o];exact List.prefix_append _ _,jQ⟩⟩
    case neg=>
     have pX:decide ((k:Int)+(j:Int)<(N:Int))=false:=decide_eq_false (by omega);have zQ:decide (k+j<N)=false:=decide_eq_false hend;by_cases R7:0<j
     case neg=>omega
     case pos=>
      have hj1:(0:Int)<(j:Int):=(by omega);have Q2:decide ((0:Int)<(j:Int))=true:=decide_eq_true hj1;have EB:decide (0<j)=true:=decide_eq_true R7;have wC:=aa (show jl u 0=(pre++[(k,j)])++jl u (k+j+1) by rw[xT.o,MO.o,if_pos R7,List.append_assoc]);obtain ⟨fn,tmps,assign,body,Rt,hR⟩:=HY.o (n-1) _ _ (k,j) _ CR (by rw[wC.o];exact List.prefix_append _ _);simp only[Nb] at Rt;gi_wp2_with fail;refine ⟨fun h=>(by cases h),?_⟩;refine hR.mono ?_;rintro e W4 (⟨rfl,Mu,hk4⟩|⟨rfl,Mv⟩)
      ·have Rx:=aa Mu;have NF:=aa (kg.trans hk4)
       clear Mu hk4 sb
       try clear s0
       gi_wp2_with fail;go_roundw
       case rel=>exact ⟨k+j+1,pre++[(k,j)],by omega,by go_num,wC.o,Rx.o,NF.o⟩
       case measure=>simp[intOf];omega
      ·have jQ:=aa Mv
       clear Mv sb
       try clear s0
       gi_wp2_with fail;refine bodyPost_ret (results_none rfl _ _ _) rfl ?_;exact ⟨⟨_,rfl⟩,Or.inr ⟨pre++[(k,j)],by rw[wC.o];exact List.prefix_append _ _,jQ⟩⟩
end Go.Proofs.YtbigkioechkngaaGreat
namespace Go.Proofs.YtbigkioechkngaaGreat
open Go.RowKit
theorem xj (pk pc pp:Option Addr) (n ck nc cc np cp:Nat) (f pos:Int) (dd:Bool) (w:World) (hn:n≤maxLen):Calls Tryz.prog 116 #[.agg #[.slice pk n ck,.slice pc nc cc,.int .i64 f,.slice pp np cp,.bool dd],.int .i64 pos] w fun e w'=>e=.returned (.bool (decide (0≤pos∧pos<n)))∧Bw w w':=by
 obtain ⟨W1,hW1⟩:=aG (w.alloc (.cells #[.slice pk n ck,.slice pc nc cc,.int .i64 f,.slice pp np cp,.bool dd] 26));have aZ:=aa (show Bw w W1 by rw[← hW1];exact aq);have aU:=aa (show eM W1 w.heap.size (.slice pk n ck) (.slice pc nc cc) (.int .i64 f) (.slice pp np cp) (.bool dd) by rw[← hW1];exact eM.new w _ _ _ _ _ _);have lN:=fK (n:=n) hn;clear hn;go_enter Tryz.func116,Tryz.ntmps116;go_upto_region 1 with fail
 try rw[hW1]
 clear hW1;obtain ⟨x0,x1,x2,x3,x4⟩:=aU.o;by_cases h0:0≤pos
 ·have d0:decide (0≤pos)=true:=decide_eq_true h0
  by_cases h1:pos<n
  ·have HF:=aa (show decide (0≤pos∧pos<n)=true from decide_eq_true ⟨h0,h1⟩)
   have d1:decide (pos<(n:Int))=true:=decide_eq_true h1;clear h0 h1;go_wp2_with fail;go_ret;exact ⟨aO HF.symm,aZ⟩
  ·have HF:=aa (show decide (0≤pos∧pos<n)=false from decide_eq_false (fun h=>h1 h.2))
   have d1:decide (pos<(n:Int))=false:=decide_eq_false h1;clear h0 h1;go_wp2_with fail;go_ret;exact ⟨aO HF.symm,aZ⟩
 ·have d0:decide (0≤pos)=false:=decide_eq_false h0
  have HF:=aa (show decide (0≤pos∧pos<n)=false from decide_eq_false (fun h=>h0 h.1));clear h0;go_wp2_with fail;go_ret;exact ⟨aO HF.symm,aZ⟩
theorem xm (d:aL) (vk vc vp:Value) (w:World) (h:bP w d vk vc vp):Calls Tryz.prog 62 #[eE d vk vc vp] w fun e w'=>e=.returned (.bool (gu d))∧Bw w w':=by
 obtain ⟨pk,ck,rfl,a1,a2⟩:=h.kept.slice;obtain ⟨pc,cc,rfl,b1,b2⟩:=h.cache.slice;obtain ⟨pp,cp,rfl,_,_⟩:=h.keep.slice;have HK:=aa h.kept.cells;have HC:=aa h.cache.cells;have fL:=aa h.bd;obtain ⟨q,hq⟩:=aG (gu d);have HQ:=aa (fW d);rw[hq] at HQ ⊢;obtain ⟨kept,cache,ah,keep,dead⟩:=d;simp only at HK HC HQ a1 b1 ⊢;unfold eE;simp only;obtain ⟨N,hN⟩:=aG kept.length;obtain ⟨M,hM⟩:=aG cache.length;obtain ⟨L,hL⟩:=aG keep.length;rw[hN,hM] at HQ;rw[hN,hM,hL];rw[hN] at a1;rw[hM] at b1;have HN:=aa hN;have HM:=aa hM;have lN:=fK (n:=N) a2;have lM:=fK (n:=M) b2;have QS:=aa (fun (y:Int) (W:World)=>xj pk pc pp N ck M cc L cp ah y dead W (Nat.le_trans a1 a2));clear h hq hN hM hL a1 a2 b1 b2;obtain ⟨W1,hW1⟩:=aG (w.alloc (.cells #[.slice pk N ck,.slice pc M cc,.int .i64 ah,.slice pp L cp,.bool dead] 26));have aZ:=aa (show Bw w W1 by rw[← hW1];exact aq);have aU:=aa (show eM W1 w.heap.size (.slice pk N ck) (.slice pc M cc) (.int .i64 ah) (.slice pp L cp) (.bool dead) by rw[← hW1];exact eM.new w _ _ _ _ _ _);have ed:=aa hW1;clear hW1;go_enter Tryz.func62,Tryz.ntmps62;go_upto_region 1 with fail;rw[ed.o];obtain ⟨x0,x1,x2,x3,x4⟩:=aU.o;have hc:(N:Int)<1∨((1:Int)≤(N:Int)∧(5000:Int)<(N:Int))∨((1:Int)≤(N:Int)∧(N:Int)≤5000∧(20000:Int)<(M:Int))∨((1:Int)≤(N:Int)∧(N:Int)≤5000∧(M:Int)≤20000∧ah < -1)∨((1:Int)≤(N:Int)∧(N:Int)≤5000∧(M:Int)≤20000 ∧ -1≤ah):=by omega
 rcases hc with c1|⟨c1,c2⟩|⟨c1,c2,c3⟩|⟨c1,c2,c3,c4⟩|⟨c1,c2,c3,c4⟩
 ·have HF:=aa (show q=false by rw[← Bool.not_eq_true,HQ.o];intro h;omega)
  obtain rfl:N=0:=by omega
  go_wp2_with fail;go_ret;exact ⟨aO HF.symm,aZ⟩
 ·have HF:=aa (show q=false by rw[← Bool.not_eq_true,HQ.o];intro h;omega)
  have d1:decide ((N:Int)<1)=false:=by simp;omega
  have d2:decide (N<1)=false:=by simp;omega
  have d3:(N==0)=false:=by simp;omega
  go_wp2_with fail;go_ret;exact ⟨aO HF.symm,aZ⟩
 ·have HF:=aa (show q=false by rw[← Bool.not_eq_true,HQ.o];intro h;omega)
  go_wp2_with fail;go_ret;exact ⟨aO HF.symm,aZ⟩
 ·have HF:=aa (show q=false by rw[← Bool.not_eq_true,HQ.o];intro h;omega)
  go_wp2_with fail;go_ret;exact ⟨aO HF.symm,aZ⟩
 have R5:=aa (And.intro c1 (And.intro c2 (And.intro c3 c4)));have e1:decide (5000<(N:Int))=false:=by simp;omega
 go_wp2_with fail;clear x0 x1 x2 x3 x4;go_loopw [31,4] (fun i _ wr=>∃k:Nat,k≤N∧i=.int .i64 k∧(∀(j:Nat) s,j<k→kept[j]?=some s→s.size=32)∧Bw W1 wr) (fun i _ _=>N-(intOf i).toNat)
 case atStart=>exact ⟨0,dQ,rfl,fun j s hj=>by omega,aH⟩
 case round=>
  obtain ⟨k,hk,rfl,hall,hb⟩:=hrel;have pW:=aa hall;have HB:=aa hb;obtain ⟨x0,x1,_,_,_⟩:=aU.below hb;clear hall hb;by_cases hlt:k<N
  ·have fO:(k:Int)<(N:Int):=by omega
   obtain ⟨s,hs⟩:=fy (l:=kept) (k:=k) (by rw[HN.o];exact hlt);obtain ⟨g,o,rfl,hcell⟩:=HK.o k s hs;have r0:=ae HB (ae aZ (hcell 0 _ rfl));replace r0:wr.cell? ⟨g,o+k,none⟩=some (.string s):=by simpa using r0
   have xD:s.size≤9223372036854775807:=by have:=fL.kept s (List.mem_of_getElem? hs);unfold maxLen at this;exact this
   have HS:=aa hs;clear hcell hs;by_cases h32:s.size=32
   ·have d1:((s.size:Int) != 32)=false:=by simp;omega
    have d2:(s.size != 32)=false:=(by simp[h32]);have H32:=aa h32;clear h32;go_wp2_with fail;go_roundw
    case rel=>exact ⟨k+1,by omega,by go_num,fun j y hj hy=>by
     by_cases e:j=k
     ·subst e;rw[HS.o] at hy;cases hy;exact H32.o
     ·exact pW.o j y (by omega) hy,HB.o⟩
    case measure=>simp[intOf];omega
   ·have d1:((s.size:Int) != 32)=true:=by simp;omega
    have d2:(s.size != 32)=true:=(by simp[h32]);have HF:=aa (show q=false by rw[← Bool.not_eq_true,HQ.o];intro h;exact h32 (h.2.1 s (List.mem_of_getElem? HS)));clear h32;go_wp2_with fail;go_ret;exact ⟨aO HF.symm,ak aZ HB⟩
  ·obtain rfl:k=N:=by omega
   have R6:=aa (show ∀s∈kept,s.size=32 from fun s hs=>by
    obtain ⟨j,hj⟩:=List.getElem?_of_mem hs;have Ez:=(List.getElem?_eq_some_iff.1 hj).1;rw[HN.o] at Ez;exact pW j s Ez hj)
   go_wp2_with fail;clear x0 x1;go_loopw [42,6] (fun i _ wz=>∃j:Nat,j≤M∧i=.int .i64 j∧(∀(i:Nat) p,i<j→cache[i]?=some p→0≤p.1∧p.1<(k:Int)∧p.2.size=32)∧Bw W1 wz) (fun i _ _=>M-(intOf i).toNat)
   case atStart=>exact ⟨0,dQ,rfl,fun j s hj=>by omega,HB⟩
   case round=>
   obtain ⟨j,hj,rfl,hall,hb⟩:=hrel;have G8:=aa hall;have bU:=aa hb;have dY:=aa (aU.below hb);clear hall hb;by_cases jh:j<M
   ·have FI:(j:Int)<(M:Int):=by omega
    have R7:(0:Int)≤(j:Int):=(by omega);obtain ⟨⟨y,s⟩,hs⟩:∃s,cache[j]?=some s:=⟨_,List.getElem?_eq_getElem (by rw[HM.o];exact jh)⟩
    obtain ⟨g,o,rfl,hcell⟩:=HC.o j _ hs;have r0:=ae bU (ae aZ (hcell 0 _ rfl));have r1:=ae bU (ae aZ (hcell 1 _ rfl));replace r0:wr.cell? ⟨g,o+j*2,none⟩=some (.int .i64 y):=r0;replace r1:wr.cell? ⟨g,o+j*2+1,none⟩=some (.string s):=r1;have xD:s.size≤9223372036854775807:=by have:=(fL.cache _ (List.mem_of_getElem? hs)).2;unfold maxLen at this;exact this
    have HS:=aa hs;clear hcell hs;go_upto_region 12 with fail;obtain ⟨W3,hW3⟩:=aG (wr.alloc (.cells #[.int .i64 y,.string s] 47));have yn:=aa (show W3.cell? ⟨wr.heap.size,0,none⟩=some (.int .i64 y)∧W3.cell? ⟨wr.heap.size,1,none⟩=some (.string s) by rw[← hW3];exact ⟨by simp,by simp⟩);have dG:=aa (show Bw wr W3 by rw[← hW3];exact aq);rw[hW3];clear hW3 r0 r1;obtain ⟨x0,x1,x2,x3,x4⟩:=dY.below dG.o;have vY:=aa (ak bU dG);obtain ⟨r0,r1⟩:=yn.o;by_cases fp:0≤y∧y<(k:Int)∧s.size=32
    ·have HG:=aa fp
     have HE:=aa (show decide (0≤y∧y<(k:Int))=true from decide_eq_true ⟨fp.1,fp.2.1⟩);have d3:((s.size:Int) != 32)=false:=by simp;omega
     have d4:(s.size != 32)=false:=(by simp[fp.2.2]);clear fp;go_wp2_with (go_at_call 116;(with_reducible refine (QS.o _ _).mono ?_);rintro e w5 ⟨rfl,aR⟩;rw[HE.o];have bA:=aV vY aR;have VB:=aa (And.intro (ae aR r0) (ae aR r1));clear aR;have k1:=VB.o.2);go_roundw
     case rel=>exact ⟨j+1,by omega,by go_num,fun i p hi hp=>by
      by_cases e:i=j
      ·subst e;rw[HS.o] at hp;cases hp;exact HG.o
      ·exact G8.o i p (by omega) hp,bA.o⟩
     case measure=>simp[intOf];omega
    ·have HF:=aa (show q=false by rw[← Bool.not_eq_true,HQ.o];intro h;exact fp (h.2.2 _ (List.mem_of_getElem? HS)))
     by_cases hc:0≤y∧y<(k:Int)
     ·have HE:=aa (show decide (0≤y∧y<(k:Int))=true from decide_eq_true hc)
      have d3:((s.size:Int) != 32)=true:=by simp;omega
      have d4:(s.size != 32)=true:=by simp;omega
      clear hc fp;go_wp2_with (go_at_call 116;(with_reducible refine (QS.o _ _).mono ?_);rintro e w5 ⟨rfl,aR⟩;rw[HE.o];have bA:=aV vY aR;have VB:=aa (And.intro (ae aR r0) (ae aR r1));clear aR;have k1:=VB.o.2);go_ret;exact ⟨aO HF.symm,ak aZ bA⟩
     ·have HE:=aa (show decide (0≤y∧y<(k:Int))=false from decide_eq_false hc)
      clear hc fp;go_wp2_with (go_at_call 116;(with_reducible refine (QS.o _ _).mono ?_);rintro e w5 ⟨rfl,aR⟩;rw[HE.o];have bA:=aV vY aR;clear aR);go_ret;exact ⟨aO HF.symm,ak aZ bA⟩
   ·obtain rfl:j=M:=by omega
    have HF:=aa (show q=true by
     rw[HQ.o];have:=R5.o;refine ⟨by omega,R6,fun p hp=>?_⟩;obtain ⟨i,hi⟩:=List.getElem?_of_mem hp;have pX:=(List.getElem?_eq_some_iff.1 hi).1;rw[HM.o] at pX;exact G8 i p pX hi)
    go_wp2_with fail;go_ret;exact ⟨aO HF.symm,ak aZ bU⟩
end Go.Proofs.YtbigkioechkngaaGreat
