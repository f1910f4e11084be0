/- The proof, part 9. -/
import Derived.Test.YtbigkioechkngaaGreatQ6
set_option maxRecDepth 100000
set_option maxHeartbeats 8000000
namespace Go.Proofs.YtbigkioechkngaaGreat
open Go.RowKit
theorem wD (d:aL) (vk vc vp:Value) (w:World) (h:bP w d vk vc vp):Calls Tryz.prog 49 #[eE d vk vc vp] w fun e w'=>e=.returned (.bool (gu d))∧Bw w w':=by
 obtain ⟨pk,ck,rfl,a1,a2⟩:=h.kept.slice;obtain ⟨pc,cc,rfl,b1,b2⟩:=h.cache.slice;obtain ⟨pp,cp,rfl,_,_⟩:=h.keep.slice;have HK:=aa h.kept.cells;have HC:=aa h.cache.cells;have fL:=aa h.bd;obtain ⟨q,hq⟩:=aG (gu d);have HQ:=aa (fW d);rw[hq] at HQ ⊢;obtain ⟨kept,cache,ah,keep,dead⟩:=d;simp only at HK HC HQ a1 b1 ⊢;unfold eE;simp only;obtain ⟨N,hN⟩:=aG kept.length;obtain ⟨M,hM⟩:=aG cache.length;obtain ⟨L,hL⟩:=aG keep.length;rw[hN,hM] at HQ;rw[hN,hM,hL];rw[hN] at a1;rw[hM] at b1;have HN:=aa hN;have HM:=aa hM;have lN:=fK (n:=N) a2;have lM:=fK (n:=M) b2;clear h hq hN hM hL a1 a2 b1 b2;obtain ⟨W1,hW1⟩:=aG (w.alloc (.cells #[.slice pk N ck,.slice pc M cc,.int .i64 ah,.slice pp L cp,.bool dead] 26));have aZ:=aa (show Bw w W1 by rw[← hW1];exact aq);have aU:=aa (show eM W1 w.heap.size (.slice pk N ck) (.slice pc M cc) (.int .i64 ah) (.slice pp L cp) (.bool dead) by rw[← hW1];exact eM.new w _ _ _ _ _ _);have ed:=aa hW1;clear hW1;go_enter Tryz.func49,Tryz.ntmps49;go_upto_region 1 with fail;rw[ed.o];obtain ⟨x0,x1,x2,x3,x4⟩:=aU.o;have hc:(N:Int)<1∨((1:Int)≤(N:Int)∧(5000:Int)<(N:Int))∨((1:Int)≤(N:Int)∧(N:Int)≤5000∧(20000:Int)<(M:Int))∨((1:Int)≤(N:Int)∧(N:Int)≤5000∧(M:Int)≤20000∧ah < -1)∨((1:Int)≤(N:Int)∧(N:Int)≤5000∧(M:Int)≤20000 ∧ -1≤ah):=by omega
 rcases hc with c1|⟨c1,c2⟩|⟨c1,c2,c3⟩|⟨c1,c2,c3,c4⟩|⟨c1,c2,c3,c4⟩
 ·have HF:=aa (show q=false by rw[← Bool.not_eq_true,HQ.o];intro h;omega)
  obtain rfl:N=0:=by omega
  go_wp2_with fail;go_ret;exact ⟨aO HF.symm,aZ⟩
 ·have HF:=aa (show q=false by rw[← Bool.not_eq_true,HQ.o];intro h;omega)
  have d1:decide ((N:Int)<1)=false:=by simp;omega
  have d2:decide (N<1)=false:=by simp;omega
  have d3:(N==0)=false:=by simp;omega
  go_wp2_with fail;go_ret;exact ⟨aO HF.symm,aZ⟩
 ·have HF:=aa (show q=false by rw[← Bool.not_eq_true,HQ.o];intro h;omega)
  go_wp2_with fail;go_ret;exact ⟨aO HF.symm,aZ⟩
 ·have HF:=aa (show q=false by rw[← Bool.not_eq_true,HQ.o];intro h;omega)
  go_wp2_with fail;go_ret;exact ⟨aO HF.symm,aZ⟩
 have R5:=aa (And.intro c1 (And.intro c2 (And.intro c3 c4)));have e1:decide (5000<(N:Int))=false:=by simp;omega
 go_wp2_with fail;clear x0 x1 x2 x3 x4;go_loopw [3] (fun i wr=>∃k:Nat,k≤N∧i=.int .i64 k∧(∀(j:Nat) s,j<k→kept[j]?=some s→s.size=32)∧Bw W1 wr) (fun i _=>N-(intOf i).toNat)
 case atStart=>exact ⟨0,dQ,rfl,fun j s hj=>by omega,aH⟩
 case round=>
  obtain ⟨k,hk,rfl,hall,hb⟩:=hrel;have pW:=aa hall;have HB:=aa hb;obtain ⟨x0,x1,_,_,_⟩:=aU.below hb;clear hall hb;by_cases hlt:k<N
  ·have fO:(k:Int)<(N:Int):=by omega
   obtain ⟨s,hs⟩:=fy (l:=kept) (k:=k) (by rw[HN.o];exact hlt);obtain ⟨g,o,rfl,hcell⟩:=HK.o k s hs;have r0:=ae HB (ae aZ (hcell 0 _ rfl));replace r0:wr.cell? ⟨g,o+k,none⟩=some (.string s):=by simpa using r0
   have xD:s.size≤9223372036854775807:=by have:=fL.kept s (List.mem_of_getElem? hs);unfold maxLen at this;exact this
   have HS:=aa hs;clear hcell hs;by_cases h32:s.size=32
   ·have d1:((s.size:Int) != 32)=false:=by simp;omega
    have d2:(s.size != 32)=false:=(by simp[h32]);have H32:=aa h32;clear h32;go_wp2_with fail;go_roundw
    case rel=>exact ⟨k+1,by omega,by go_num,fun j y hj hy=>by
     by_cases e:j=k
     ·subst e;rw[HS.o] at hy;cases hy;exact H32.o
     ·exact pW.o j y (by omega) hy,HB.o⟩
    case measure=>simp[intOf];omega
   ·have d1:((s.size:Int) != 32)=true:=by simp;omega
    have d2:(s.size != 32)=true:=(by simp[h32]);have HF:=aa (show q=false by rw[← Bool.not_eq_true,HQ.o];intro h;exact h32 (h.2.1 s (List.mem_of_getElem? HS)));clear h32;go_wp2_with fail;go_ret;exact ⟨aO HF.symm,ak aZ HB⟩
  ·obtain rfl:k=N:=by omega
   have R6:=aa (show ∀s∈kept,s.size=32 from fun s hs=>by
    obtain ⟨j,hj⟩:=List.getElem?_of_mem hs;have Ez:=(List.getElem?_eq_some_iff.1 hj).1;rw[HN.o] at Ez;exact pW j s Ez hj)
   go_wp2_with fail;clear x0 x1;go_loopw [4] (fun i wz=>∃j:Nat,j≤M∧i=.int .i64 j∧(∀(i:Nat) p,i<j→cache[i]?=some p→0≤p.1∧p.1<(k:Int)∧p.2.size=32)∧Bw W1 wz) (fun i _=>M-(intOf i).toNat)
   case atStart=>exact ⟨0,dQ,rfl,fun j s hj=>by omega,HB⟩
   case round=>
   obtain ⟨j,hj,rfl,hall,hb⟩:=hrel;have G8:=aa hall;have bU:=aa hb;obtain ⟨x0,x1,_,_,_⟩:=aU.below hb;clear hall hb;by_cases jh:j<M
   ·have FI:(j:Int)<(M:Int):=by omega
    have R7:(0:Int)≤(j:Int):=(by omega);obtain ⟨⟨y,s⟩,hs⟩:∃s,cache[j]?=some s:=⟨_,List.getElem?_eq_getElem (by rw[HM.o];exact jh)⟩
    obtain ⟨g,o,rfl,hcell⟩:=HC.o j _ hs;have r0:=ae bU (ae aZ (hcell 0 _ rfl));have r1:=ae bU (ae aZ (hcell 1 _ rfl));replace r0:wr.cell? ⟨g,o+j*2,none⟩=some (.int .i64 y):=r0;replace r1:wr.cell? ⟨g,o+j*2+1,none⟩=some (.string s):=r1;have xD:s.size≤9223372036854775807:=by have:=(fL.cache _ (List.mem_of_getElem? hs)).2;unfold maxLen at this;exact this
    have HS:=aa hs;clear hcell hs;by_cases fp:0≤y∧y<(k:Int)∧s.size=32
    ·have HG:=aa fp
     have d1:decide (y<0)=false:=by simp;omega
     have d2:decide ((k:Int)≤y)=false:=by simp;omega
     have d3:((s.size:Int) != 32)=false:=by simp;omega
     have d4:(s.size != 32)=false:=(by simp[fp.2.2]);clear fp;go_wp2_with fail;go_quiet (fail);go_wp2_with fail;go_roundw
     case rel=>exact ⟨j+1,by omega,by go_num,fun i p hi hp=>by
      by_cases e:i=j
      ·subst e;rw[HS.o] at hp;cases hp;exact HG.o
      ·exact G8.o i p (by omega) hp,ay bU.o _⟩
     case measure=>simp[intOf];omega
    ·have HF:=aa (show q=false by rw[← Bool.not_eq_true,HQ.o];intro h;exact fp (h.2.2 _ (List.mem_of_getElem? HS)))
     have hc:y<0∨(¬y<0∧(k:Int)≤y)∨(¬y<0∧¬(k:Int)≤y∧¬s.size=32):=(by omega);clear fp;rcases hc with c5|⟨c5,c6⟩|⟨c5,c6,c7⟩
     ·have d1:decide (y<0)=true:=by simp;omega
      go_wp2_with fail;go_quiet (fail);go_wp2_with fail;go_ret;exact ⟨aO HF.symm,ak aZ (ay bU _)⟩
     ·have d1:decide (y<0)=false:=by simp;omega
      have d2:decide ((k:Int)≤y)=true:=by simp;omega
      go_wp2_with fail;go_quiet (fail);go_wp2_with fail;go_ret;exact ⟨aO HF.symm,ak aZ (ay bU _)⟩
     ·have d1:decide (y<0)=false:=by simp;omega
      have d2:decide ((k:Int)≤y)=false:=by simp;omega
      have d3:((s.size:Int) != 32)=true:=by simp;omega
      have d4:(s.size != 32)=true:=(by simp[c7]);go_wp2_with fail;go_quiet (fail);go_wp2_with fail;go_ret;exact ⟨aO HF.symm,ak aZ (ay bU _)⟩
   ·obtain rfl:j=M:=by omega
    have HF:=aa (show q=true by
     rw[HQ.o];have:=R5.o;refine ⟨by omega,R6,fun p hp=>?_⟩;obtain ⟨i,hi⟩:=List.getElem?_of_mem hp;have pX:=(List.getElem?_eq_some_iff.1 hi).1;rw[HM.o] at pX;exact G8 i p pX hi)
    go_wp2_with fail;go_ret;exact ⟨aO HF.symm,ak aZ bU⟩
theorem R8 {d:aL} {pos:Int} (h:gu d=false):fq d pos=(eB,1):=by unfold fq;rw[if_pos h]
theorem KE {d:aL} {pos:Int} (h:gu d=true) (h2:d.dead=true):fq d pos=(eB,90):=by unfold fq;rw[if_neg (by rw[h];simp),if_pos h2]
theorem N6 {d:aL} {pos:Int} (h:gu d=true) (h2:d.dead=false) (h3:pos<0∨(d.kept.length:Int)≤pos):fq d pos=(eB,1):=by unfold fq;rw[if_neg (by rw[h];simp),if_neg (by rw[h2];simp),if_pos h3]
theorem G9 {d:aL} {k:Nat} {s:ByteArray} (h:gu d=true) (h2:d.dead=false) (h3:d.kept[k]?=some s):fq d k=(kL d.cache k s,0):=by have:=(List.getElem?_eq_some_iff.1 h3).1;unfold fq;rw[if_neg (by rw[h];simp),if_neg (by rw[h2];simp),if_neg (by omega),Int.toNat_natCast,h3];rfl
theorem Ap {s s':ByteArray} {c c':Int} (h1:s=s') (h2:c=c'):Ending.returned (.tuple #[.string s,.int .i64 c])=.returned (.tuple #[.string s',.int .i64 c']):=by rw[h1,h2]
end Go.Proofs.YtbigkioechkngaaGreat
