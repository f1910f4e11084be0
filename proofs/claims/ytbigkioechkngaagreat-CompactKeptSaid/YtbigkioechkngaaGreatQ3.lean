/- The proof, part 4. -/
import Derived.Test.YtbigkioechkngaaGreatQ2
import Derived.RangeFuncNested
import Derived.RangeFuncBound
import Derived.RangeFuncCalls
import Derived.Shelf.Abstract
import Derived.Shelf.RegionOpen
import Derived.OwnWalkIn
import Derived.TacticsInMore
import Derived.LoopNIn
import Derived.LoopIn
import Derived.Outline
set_option maxRecDepth 100000
set_option maxHeartbeats 8000000
namespace Go.Proofs.YtbigkioechkngaaGreat
open Go.RowKit Go.Shelf
attribute [local go_sem] Oper.semAt_some
def Vx (x:az):Array Value := #[.agg #[.int .i64 x.1,.int .i64 x.2]]
structure Env (l:Nat) (L:List az) (J:(Nat→Prop)→List az→World→Prop) (Jx:List az→World→Prop):Prop where
 keep:∀M M' s A B,J M s A→A.grownBy B none→New M M' A B→J M' s B
 aoi:∀s A B,Jx s A→A.grownBy B none→Jx s B
 yield:∀m M pre x W1,J M pre W1→pre++[x] <+: L→YieldAt Fence.wide m Tryz.prog l (Vx x) W1 fun e W'=>(e=.returned (.bool true)∧J M (pre++[x]) W'∧fA M W1 W')∨(e=.returned (.bool false)∧Jx (pre++[x]) W')
def Kn (M:Nat→Prop) (b:Nat):Nat→Prop:=fun k=>M k∨k=b
theorem Vy (M:Nat→Prop) (W:World) (o:Obj):New M (Kn M W.heap.size) W (W.alloc o):=fun b hb=>by
 rcases hb with hb|rfl
 ·exact .inl hb
 ·exact .inr (by simp)
def Rs (J:(Nat→Prop)→List az→World→Prop) (Jx:List az→World→Prop) (M:Nat→Prop) (pre l:List az) (W:World) (e:Ending) (W':World):Prop:=
 (e=.returned (.bool true)∧(∃M',(∀b,M b→M' b)∧J M' (pre++l) W')∧fA M W W')∨(e=.returned (.bool false)∧∃q,q <+: l∧Jx (pre++q) W')
theorem Vz (l:Nat) (L:List az) (J:(Nat→Prop)→List az→World→Prop) (Jx:List az→World→Prop) (E:Env l L J Jx) (t:ag) :
 ∀(n:Nat) (a b c:Value) (low:Int) (M:Nat→Prop) (pre:List az) (W:World),bG t low=true→bw (mask M W) t a b c→J M pre W→pre++aB t <+: L →
  CallsIn Fence.wide n Tryz.prog 216 #[.agg #[a,b,c],.func (.yield l) #[] #[]] W (Rs J Jx M pre (aB t) W):=by
 induction t using ag.ind with
 |h ks vs kids ih=>
  intro n a b c low M pre W hsz hn hj hN;have zD:=aa ih;clear ih;have HE:=aa E;clear E;have zH:=aa hn;obtain ⟨⟨pa,ca,rfl,a1,a2,ha⟩,⟨pb,cb,rfl,b1,b2,Nn⟩,⟨pc,cc,rfl,c1,c2,hk⟩⟩:=bD.1 hn;simp only[ag.keys,ag.vals,ag.kids] at a1 b1 c1 ha Nn hk zH ⊢;have HA:=aa ha;have HV:=aa Nn;have HK:=aa hk;obtain ⟨K,hK⟩:=aG ks.length;obtain ⟨V,hV⟩:=aG vs.length;obtain ⟨C,hC⟩:=aG kids.length;rw[hK] at a1 zH ⊢;rw[hV] at b1 zH ⊢;rw[hC] at c1 zH ⊢;have hla:=fK (n:=K) a2;have hlb:=fK (n:=V) b2;have hlc:=fK (n:=C) c2;have vN:=aa hK;have QJ:=aa hV;have tG:=aa hC;simp only[bG,Bool.and_eq_true,decide_eq_true_eq] at hsz;rw[hK,hV,hC] at hsz;have mW:=aa hsz;have sF:=aa hN;have HJ:=aa hj;clear hn ha Nn hk a1 a2 b1 b2 c1 c2 hK hV hC hsz hN hj;obtain ⟨W1,hW1⟩:=aG (W.alloc (.cells #[.slice pa K ca,.slice pb V cb,.slice pc C cc] 73));have aU:=aa (show gT W.heap.size (.slice pa K ca) (.slice pb V cb) (.slice pc C cc) W1 by rw[← hW1];exact ⟨by simp,by simp,by simp⟩);have Mp:=aa (show W.grownBy W1 none by rw[← hW1];exact World.grownBy_alloc _ _ _);have HJ1:=aa (show J (Kn M W.heap.size) pre W1 from HE.keep _ _ _ _ _ HJ Mp (by rw[← hW1];exact Vy M W _));have ed:=aa hW1;clear hW1;refine callsIn_of_wp Tryz.func216 rfl trivial ?_ rfl;simp only[Tryz.ntmps216,List.size_toArray,List.length_cons,List.length_nil,Nat.reduceAdd,Nat.reduceSub,Array.replicate_succ,Array.replicate_zero,List.push_toArray,List.append_toArray,List.nil_append,List.cons_append];rcases Nat.eq_zero_or_pos C with hz|hz
  ·have hz0:((C:Int)==0)=true:=by rw[hz];rfl
   have hVK:V=K:=by
    have:=mW.2;rw[if_pos hz] at this
    simpa using this
   have HP:=aa (show aB (.mk ks vs kids)=ks.zip vs by
    have:kids=[]:=List.eq_nil_of_length_eq_zero (by rw[tG.o];exact hz);subst this;simp[aB,bR])
   clear hz;subst hVK;gi_wp2_with fail;rw[ed.o];gi_loopw [16,5,6] (fun i _ _ wr=>∃k:Nat,k≤V∧i=.int .i64 k∧J (Kn M W.heap.size) (pre++(ks.zip vs).take k) wr∧fA (Kn M W.heap.size) W1 wr) (fun i _ _ _=>V-(intOf i).toNat)
   case atStart=>exact ⟨0,dQ,rfl,by rw[List.take_zero,List.append_nil];exact HJ1,fA.refl _ _⟩
   case round=>
    obtain ⟨k,hk,rfl,hj,tF⟩:=hrel;have CR:=aa hj;have kg:=aa tF;clear hj tF;by_cases hlt:k<V
    case neg=>
     obtain rfl:k=V:=by omega
     have HT:=aa (show (ks.zip vs).take k=ks.zip vs from List.take_of_length_le (by rw[List.length_zip,vN.o];omega));gi_wp2_with fail;go_ret;refine Or.inl ⟨rfl,⟨Kn M W.heap.size,fun b hb=>Or.inl hb,?_⟩,(fA.grown Mp (fun r e=>by cases e)).trans (kg.less fun b hb=>Or.inl hb)⟩;rw[HP.o,← HT.o];exact CR.o
    have fO:(k:Int)<(V:Int):=(by omega);obtain ⟨x,hx⟩:=fy (l:=ks) (k:=k) (by rw[vN.o];exact hlt);obtain ⟨y,hy⟩:=fy (l:=vs) (k:=k) (by rw[QJ.o];exact hlt);obtain ⟨_,ga,oa,rfl,BZ⟩:=HA.o k x hx;obtain ⟨_,gb,ob,rfl,Ch⟩:=HV.o k y hy;have rx:=kg.cell (.inl (ar.1 BZ).1) (Mp.cell (ar.1 BZ).2 (by simp));have ry:=kg.cell (.inl (ar.1 Ch).1) (Mp.cell (ar.1 Ch).2 (by simp));have x0:=kg.cell (.inr rfl) aU.1;have x1:=kg.cell (.inr rfl) aU.2.1;have JP:=aa (Ge hx hy);have hlen:(pre++(ks.zip vs).take k)++[(x,y)] <+: L:=by have h1:=sF.o;rw[HP.o] at h1;refine List.IsPrefix.trans ?_ h1;rw[List.append_assoc,← JP.o];exact (List.prefix_append_right_inj pre).2 (List.take_prefix _ _)
    obtain ⟨fn,tmps,assign,body,Rt,hR⟩:=HE.yield (n-1) _ _ (x,y) wr CR hlen;simp only[Vx] at Rt;clear hx hy BZ Ch hlen;gi_wp2_with fail;refine ⟨fun h=>(by cases h),?_⟩;refine hR.mono ?_;rintro e W3 (⟨rfl,Ru,hk3⟩|⟨rfl,hx3⟩)
    ·have HJ3:=aa Ru;have HK3:=aa (kg.trans hk3)
     clear Ru hk3 rx ry x0 x1;gi_wp2_with fail;go_roundw
     case rel=>exact ⟨k+1,by omega,by go_num,by rw[JP.o,← List.append_assoc];exact HJ3.o,HK3.o⟩
     case measure=>simp[intOf];omega
    ·have kK:=aa hx3
     clear hx3 rx ry x0 x1;gi_wp2_with fail;go_ret;refine Or.inr ⟨rfl,(ks.zip vs).take (k+1),?_,?_⟩
     ·rw[HP.o];exact List.take_prefix _ _
     ·rw[JP.o,← List.append_assoc];exact kK.o
  ·have hz0:((C:Int)==0)=false:=by rw[beq_eq_false_iff_ne];omega
   have HP:=aa (show aB (.mk ks vs kids)=bR kids by
    simp only[aB];rw[if_neg (by rw[tG.o];omega),List.nil_append])
   have Vl:=aa (show ∀(j:Nat) (u:ag),kids[j]?=some u→bG u 2=true by
    have:=mW.2;rw[if_neg (by omega)] at this;simp only[Bool.and_eq_true,decide_eq_true_eq] at this;exact fun j u hu=>((eV _ _).1 this.2 j u hu).1)
   clear hz;gi_wp2_with fail;rw[ed.o];gi_loopw [35,8] (fun i _ wr=>∃(k:Nat) (M':Nat→Prop),k≤C∧i=.int .i64 k∧(∀b,Kn M W.heap.size b→M' b)∧J M' (pre++bR (kids.take k)) wr∧fA (Kn M W.heap.size) W1 wr) (fun i _ _=>C-(intOf i).toNat)
   case atStart=>exact ⟨0,_,dQ,rfl,fun b hb=>hb,by rw[List.take_zero];simp only[bR,List.append_nil];exact HJ1,fA.refl _ _⟩
   case round=>
    obtain ⟨k,M',hk,rfl,Rv,hj,tF⟩:=hrel;have CR:=aa hj;have kg:=aa tF;have sG:=aa Rv;clear hj tF Rv;by_cases hlt:k<C
    case neg=>
     obtain rfl:k=C:=by omega
     have HT:=aa (show kids.take k=kids from List.take_of_length_le (by rw[tG.o];exact aT));gi_wp2_with fail;go_ret;refine Or.inl ⟨rfl,⟨M',fun b hb=>sG b (Or.inl hb),?_⟩,(fA.grown Mp (fun r e=>by cases e)).trans (kg.less fun b hb=>Or.inl hb)⟩;rw[HP.o,← HT.o];exact CR.o
    have fO:(k:Int)<(C:Int):=(by omega);obtain ⟨u,hu⟩:=fy (l:=kids) (k:=k) (by rw[tG.o];exact hlt);obtain ⟨g,o,a,b,d,rfl,e1,e2,e3,e4⟩:=HK.o k u hu;obtain ⟨pu,nu,cu,pv,nv,cv,pw,nw,cw,rfl,rfl,rfl⟩:=bc e4;have kk:dJ (mask M W) (mask M wr):=bI fun q v hq hv=>⟨hq,kg.cell (.inl hq) (Mp.cell hv (by simp))⟩
    have r1:=(ar.1 (kk _ _ e1)).2;have r2:=(ar.1 (kk _ _ e2)).2;have r3:=(ar.1 (kk _ _ e3)).2;obtain ⟨W2,hW2⟩:=aG (wr.alloc (.cells #[.slice pu nu cu,.slice pv nv cv,.slice pw nw cw] 73));have hg2:wr.grownBy W2 none:=by rw[← hW2];exact World.grownBy_alloc _ _ _
    have Vp:=aa hg2;have yR:=aa (show bw (mask M' W2) u (.slice pu nu cu) (.slice pv nv cv) (.slice pw nw cw) from (e4.keep kk).keep (bI fun q v hq hv=>⟨sG _ (.inl hq),hg2.cell hv (by simp)⟩));have HJ3:=aa (show J M' (pre++bR (kids.take k)) W2 from HE.keep _ _ _ _ _ CR hg2 (fun b hb=>.inl hb));have Y6:=aa (Vl.o k u hu);have HUM:=aa (List.mem_of_getElem? hu);have yN:=aa (qz hu);have rP:=aa (show (pre++bR (kids.take k))++aB u <+: L by
     have h1:=sF.o;rw[HP.o] at h1;refine List.IsPrefix.trans ?_ h1;rw[List.append_assoc,← qz hu];refine (List.prefix_append_right_inj pre).2 ?_;have Rw:bR kids=bR (kids.take (k+1))++bR (kids.drop (k+1)):=by rw[bZ,bZ,bZ,← List.flatten_append,← List.map_append,List.take_append_drop]
     rw[Rw];exact List.prefix_append _ _)
    have XZ:=aa hW2;clear hu e1 e2 e3 e4 kk hW2 hg2;gi_wp2_with fail;rw[XZ.o];refine ⟨trivial,fun h=>(by cases h),?_⟩;refine (zD u HUM (n-1) _ _ _ 2 M' _ W2 Y6 yR HJ3 rP).mono ?_;rintro e W3 (⟨rfl,⟨M2,zE,Ru⟩,hk3⟩|⟨rfl,q,hq,hx3⟩)
    ·have Rx:=aa Ru;have CO:=aa zE
     have NF:=aa (kg.trans ((fA.grown Vp (fun r e=>by cases e)).trans (hk3.less sG)));clear Ru hk3 zE r1 r2 r3;gi_wp2_with fail;go_roundw
     case rel=>exact ⟨k+1,M2,by omega,by go_num,fun b hb=>CO.o b (sG.o b hb),by rw[yN.o,← List.append_assoc];exact Rx.o,NF.o⟩
     case measure=>simp[intOf];omega
    ·have jQ:=aa hx3;have HQ:=aa hq
     clear hx3 hq r1 r2 r3;gi_wp2_with fail;go_ret;refine Or.inr ⟨rfl,bR (kids.take k)++q,?_,?_⟩
     ·rw[HP.o]
      obtain ⟨r,hr⟩:=HQ.o;have Rw:bR kids=bR (kids.take (k+1))++bR (kids.drop (k+1)):=by rw[bZ,bZ,bZ,← List.flatten_append,← List.map_append,List.take_append_drop]
      rw[Rw,yN.o,← hr];exact ⟨r++bR (kids.drop (k+1)),by simp⟩
     ·rw[← List.append_assoc];exact jQ.o
theorem NG (x y z:Value) (w:World):Calls Tryz.prog 188 #[.agg #[x,y,z]] w fun e w'=>e=.returned (.func (.func 215) #[] #[.pointer (some ⟨w.heap.size,0,none⟩)])∧w'=w.alloc (.cells #[x,y,z] 73):=by go_enter Tryz.func188,Tryz.ntmps188;go_wp2_with fail;go_ret;exact ⟨rfl,rfl⟩
theorem NH (n B:Nat) (M₀:Nat→Prop) (t:ag) (low:Int) (x y z:Value) (w:World) (hs:bG t low=true) (hn:bw (mask M₀ w) t x y z) (hx:gT B x y z w) :
 NB n Tryz.prog 215 #[.pointer (some ⟨B,0,none⟩)] Vx M₀ (aB t) w:=by
 intro l J Jx W hW Ms hJ2 hY h0;have E:Env l (aB t) J Jx:=⟨Ms,hJ2,fun m M pre x W1 h1 h2=>hY m M pre x W1 h1 h2⟩
 obtain ⟨pu,nu,cu,pv,nv,cv,pw,nw,cw,rfl,rfl,rfl⟩:=bc hn;have jg:=hx.below hW;have XR:bw (mask M₀ W) t _ _ _:=hn.keep (bI fun q v hq hv=>⟨hq,ae hW hv⟩);have hp:=Vz l _ J Jx E t (n-1) _ _ _ low M₀ [] W hs XR h0 (List.prefix_refl _);have HP:=aa hp;obtain ⟨x0,x1,x2⟩:=jg;clear hp hn XR hx hW Ms hJ2 hY h0 E hs;refine callsIn_of_wp Tryz.func215 rfl trivial ?_ rfl;simp only[Tryz.ntmps215,List.size_toArray,List.length_cons,List.length_nil,Nat.reduceAdd,Nat.reduceSub,Array.replicate_succ,Array.replicate_zero,List.push_toArray,List.append_toArray,List.nil_append,List.cons_append];gi_wp2_with fail;refine ⟨trivial,fun h=>(by cases h),?_⟩;refine HP.mono ?_;rintro e W3 (⟨rfl,⟨M2,_,Ru⟩,_⟩|⟨rfl,q,hq,hx3⟩)
 ·have HJ3:=aa Ru
  clear Ru x0 x1 x2;gi_wp2_with fail;go_end0;exact ⟨⟨_,rfl⟩,Or.inl ⟨M2,by simpa using HJ3.o⟩⟩
 ·have kK:=aa hx3;have HQ:=aa hq
  clear hx3 hq x0 x1 x2;gi_wp2_with fail;go_end0;exact ⟨⟨_,rfl⟩,Or.inr ⟨q,HQ,by simpa using kK.o⟩⟩
attribute [local go_sem] Oper.semAt_some
def uK (l:List az) (f t:Int):List az:=l.filter fun x=>inB x f t
def iz (l:List az) (f:Int):List az:=l.filter fun x=>decide (f≤x.1)
structure GA (w:World) (B:Nat) (f t:Int) (M:Nat→Prop) (pre:List az) (W:World):Prop where
 row:∃v,Boxed W B 76 v∧W.ownsRow (B+2) 82 2 v (iz pre f).length (bN (iz pre f)).flatten∧∀g,v.ownBlock=some g→¬M g
 m1:¬M B
 ml:∀b,M b→b<W.heap.size
 sz:B+2≤W.heap.size
 bf:W.cell? ⟨w.heap.size+1,0,none⟩=some (.int .i64 f)
 bt:W.cell? ⟨w.heap.size+1+1,0,none⟩=some (.int .i64 t)
 below:Bw w W
 lt:∀y∈pre,y.1<t
theorem GA.kept {w:World} {B:Nat} {f t:Int} {M M':Nat→Prop} {pre:List az} {A C:World} {row:Option Nat} (h:GA w B f t M pre A) (hB:w.heap.size+2<B) (hg:A.grownBy C row) (hr:∀r,row=some r→B≤r∧∃o,A.heap[r]?=some o∧o.isCells=false) (hn:New M M' A C):GA w B f t M' pre C:=by
 have QK:∀b,b<B→some b≠row:=fun b hb e=>by have:=(hr b e.symm).1;omega
 obtain ⟨v,h1,h2,h3⟩:=h.row;have hrow:∀r,row=some r→r≠B∧v.ownBlock≠some r:=fun r e=>by
  obtain ⟨h4,o,h5,h6⟩:=hr r e;refine ⟨fun e2=>?_,fun e2=>?_⟩
  ·subst e2;rw[show A.heap[r]?=_ from h1] at h5;cases h5;cases h6
  ·rcases aK h2 with ⟨hv,_,_⟩|⟨g,cap,hv⟩
   ·rw[hv] at e2;cases e2
   ·subst hv
    obtain ⟨cur,h7,_⟩:=bp h2;have:g=r:=by simpa [Value.ownBlock] using e2
    subst this;rw[h7] at h5;cases h5;cases h6
 refine ⟨⟨v,h1.kept hg (fun e=>(hrow _ e.symm).1 rfl),h2.kept hg ?_,fun g e hm=>?_⟩,fun hm=>?_,fun b hm=>?_,Nat.le_trans h.sz hg.size,hg.cell h.bf (QK _ (by show w.heap.size+1<B;omega)),hg.cell h.bt (QK _ (by show w.heap.size+1+1<B;omega)),?_,h.lt⟩
 ·rcases hro:row with _|r
  ·rcases hv:v.ownBlock with _|g
   ·exact .inl rfl
   ·exact .inr (by simp)
  ·exact .inr (hrow r hro).2
 ·rcases hn g hm with hm|hm
  ·exact h3 g e hm
  ·have:=(h2.lt g e).2;omega
 ·rcases hn _ hm with hm|hm
  ·exact h.m1 hm
  ·have:=h.sz;omega
 ·rcases hn b hm with hm|hm
  ·have:=h.ml b hm;have:=hg.size;omega
  ·exact hm.2
 ·exact ⟨hg.os.trans h.below.os,hg.tape.trans h.below.tape,hg.output.trans h.below.output,Nat.le_trans h.below.size hg.size,fun k hk=>(hg.block k (by have:=h.below.size;omega) (QK k (by omega))).trans (h.below.block k hk)⟩
theorem GD {l:List az} {f t:Int} (h:∀y∈l,y.1<t):iz l f=uK l f t:=by unfold iz uK inB;apply List.filter_congr;intro x hx;rw[decide_eq_true (h x hx),Bool.and_true]
theorem NI {l q:List az} {x:az} {f t:Int} (hr:jD l=true) (hp:q++[x] <+: l) (hq:∀y∈q,y.1<t) (hx:t≤x.1):iz q f=uK l f t:=by
 obtain ⟨r,rfl⟩:=hp;have hle:∀y∈[x]++r,t≤y.1:=by
  have adr:=(rO _).1 hr;intro y hy;obtain ⟨j,hj⟩:=List.mem_iff_getElem?.1 hy;have:∀(j:Nat) y,([x]++r)[j]?=some y→t≤y.1:=by
   intro j
   induction j with
   |zero=>intro y hy;simp at hy;subst hy;exact hx
   |succ j ih=>
    intro y hy;have hlt:j<([x]++r).length:=by have:=(List.getElem?_eq_some_iff.1 hy).1;omega
    obtain ⟨z,hz⟩:∃z,([x]++r)[j]?=some z:=⟨_,List.getElem?_eq_getElem hlt⟩
    have h1:=ih z hz;have h2:=adr (q.length+j) z y (by rw[List.append_assoc,List.getElem?_append_right (by omega),show q.length+j-q.length=j by omega];exact hz) (by rw[List.append_assoc,List.getElem?_append_right (by omega),show q.length+j+1-q.length=j+1 by omega];exact hy);omega
  exact this j y hj
 rw[GD hq];unfold uK;have hnil:([x]++r).filter (fun x=>inB x f t)=[]:=List.filter_eq_nil_iff.2 (fun y hy=>by
  unfold inB;have:=hle y hy;rw[show decide (y.1<t)=false from decide_eq_false (by omega),Bool.and_false];simp)
 rw[List.append_assoc,List.filter_append,hnil,List.append_nil]
def jV (t:ag) (f u:Int):List az:=if jT t=true then uK (aB t) f u else []
def Ry (t:ag) (f u:Int) (w:World) (e:Ending) (w':World):Prop:=∃v',e=.returned v'∧w'.ownsRow w.heap.size 82 2 v' (jV t f u).length (bN (jV t f u)).flatten∧Bw w w'
theorem VA (w:World) (x y z p q:Value):gT w.heap.size x y z (((w.alloc (.cells #[x,y,z] 73)).alloc (.cells #[p] 3)).alloc (.cells #[q] 3)) ∧
 (((w.alloc (.cells #[x,y,z] 73)).alloc (.cells #[p] 3)).alloc (.cells #[q] 3)).cell? ⟨w.heap.size+1,0,none⟩=some p∧(((w.alloc (.cells #[x,y,z] 73)).alloc (.cells #[p] 3)).alloc (.cells #[q] 3)).cell? ⟨w.heap.size+1+1,0,none⟩=some q:=by
 have h0:gT w.heap.size x y z (w.alloc (.cells #[x,y,z] 73)):=⟨by simp,by simp,by simp⟩
 have h1:=Boxed.new (w.alloc (.cells #[x,y,z] 73)) 3 p;have h2:=Boxed.new ((w.alloc (.cells #[x,y,z] 73)).alloc (.cells #[p] 3)) 3 q;rw[World.size_alloc] at h1;rw[World.size_alloc,World.size_alloc] at h2;exact ⟨(h0.below (aq)).below (aq),(h1.alloc _).cell,h2.cell⟩
theorem uL (W:World) (B n:Nat) (v:Value) (l:List az) (x y:Int) (hown:W.ownsRow B 82 2 v n (bN l).flatten) (hn:n≤1000000) (hB:B≤W.heap.size) :
 ∃g cap w2,(Builtin.append_ #[76,76] 76 #[v,.slice (some ⟨W.heap.size,0,none⟩) 1 1]).run Tryz.prog (W.alloc (.cells #[.int .i64 x,.int .i64 y] 82))=.ok (.slice (some ⟨g,0,none⟩) (n+1) cap) w2 ∧
  w2.ownsRow B 82 2 (.slice (some ⟨g,0,none⟩) (n+1) cap) (n+1) (bN (l++[(x,y)])).flatten∧(W.alloc (.cells #[.int .i64 x,.int .i64 y] 82)).grownBy w2 v.ownBlock∧(v.ownBlock=some g∨g=W.heap.size+1):=by
 obtain ⟨i0,iP,hz0,hz1,hz2⟩:=info_parts Gf;obtain ⟨v',w',h1,h2,h3,_,h5⟩:=run_append_own_at (P:=Tryz.prog) (W.alloc (.cells #[.int .i64 x,.int .i64 y] 82)) B 76 76 82 i0 (.agg #[.int .i64 0,.int .i64 0]) 2 16 Tryz.underlying76 iP hz0 hz1 hz2 rfl (by decide) v n _ (hown.alloc _) ⟨W.heap.size,0,none⟩ 1 1 [.int .i64 x,.int .i64 y] rfl zF (by intro u hu;simp only[List.mem_cons,List.not_mem_nil,or_false] at hu;rcases hu with rfl|rfl <;> rfl) (by unfold maxLen;omega) (by omega) (by simp;omega);obtain ⟨g,cap,rfl⟩:=ownsRow_succ h2;refine ⟨g,cap,w',h1,by rw[nK];exact h2,h3,?_⟩;rcases h5 with h5|h5
 ·exact .inl h5.symm
 ·right;simpa [Value.ownBlock] using h5
theorem Ko {W w2:World} {B Bs n g cap:Nat} {T e:TypeId} {k:Nat} {v:Value} {xs ys:List Value} {o:Obj} (M:Nat→Prop) (h1:Boxed W B T v) (h2:W.ownsRow Bs e k v n xs) (hBs:B<Bs) (hown:w2.ownsRow Bs e k (.slice (some ⟨g,0,none⟩) (n+1) cap) (n+1) ys)
 (hg:(W.alloc o).grownBy w2 v.ownBlock) (kT:v.ownBlock=some g∨g=W.heap.size+1) (hm:¬M B) (Uy:∀b,M b→b<W.heap.size) (hmr:∀g,v.ownBlock=some g→¬M g) (Bk:Nat) :
 Boxed w2 B T v∧KeepsFrom Bk W (w2.setCell ⟨B,0,none⟩ (.slice (some ⟨g,0,none⟩) (n+1) cap))∧fA M W (w2.setCell ⟨B,0,none⟩ (.slice (some ⟨g,0,none⟩) (n+1) cap))∧Boxed (w2.setCell ⟨B,0,none⟩ (.slice (some ⟨g,0,none⟩) (n+1) cap)) B T (.slice (some ⟨g,0,none⟩) (n+1) cap) ∧
  (w2.setCell ⟨B,0,none⟩ (.slice (some ⟨g,0,none⟩) (n+1) cap)).ownsRow Bs e k (.slice (some ⟨g,0,none⟩) (n+1) cap) (n+1) ys∧¬M g∧W.heap.size≤(w2.setCell ⟨B,0,none⟩ (.slice (some ⟨g,0,none⟩) (n+1) cap)).heap.size ∧
  (∀b,b<Bs→b≠B→b<W.heap.size→(w2.setCell ⟨B,0,none⟩ (.slice (some ⟨g,0,none⟩) (n+1) cap)).heap[b]?=W.heap[b]?):=by
 have hne:some B≠v.ownBlock:=fun e'=>by have:=(h2.lt _ e'.symm).1;omega
 have b2:Boxed w2 B T v:=(h1.alloc o).kept hg hne;have hgB:g≠B:=by have:=(hown.lt g rfl).1;omega
 have hsz:=hg.size;have ars:=(grownBy_setCell' w2 B (.slice (some ⟨g,0,none⟩) (n+1) cap)).size;rw[World.size_alloc] at hsz;have NJ:¬M g:=by
  rcases kT with h|h
  ·exact hmr g h
  ·intro h';have:=Uy g h';omega
 have hblk:∀b,b<W.heap.size→b≠B→some b≠v.ownBlock→(w2.setCell ⟨B,0,none⟩ (.slice (some ⟨g,0,none⟩) (n+1) cap)).heap[b]?=W.heap[b]?:=fun b hb h3 h4=>
  ((grownBy_setCell' w2 B _).block b (by omega) (fun e'=>h3 (by injection e'))).trans ((hg.block b (by rw[World.size_alloc];omega) h4).trans ((World.grownBy_alloc W o none).block b hb (by simp)))
 refine ⟨b2,⟨by omega,fun k' o' _ hk hc=>?_⟩,⟨by omega,fun b hb hlt=>hblk b hlt (fun e'=>hm (by rw[← e'];exact hb)) (fun e'=>hmr b e'.symm hb)⟩,b2.set _,hown.kept (grownBy_setCell' w2 B _) (.inr (by simpa [Value.ownBlock] using hgB)),NJ,by omega,fun b hb h3 h4=>hblk b h4 h3 (fun e'=>by have:=(h2.lt _ e'.symm).1;omega)⟩;rw[hblk k' (Array.getElem?_eq_some_iff.1 hk).1 (fun e'=>?_) (fun e'=>?_)]
 ·exact hk
 ·rw[e',show W.heap[B]?=_ from h1] at hk;cases hk;cases hc
 ·rcases aK h2 with ⟨hv,_,_⟩|⟨g',cap',hv⟩
  ·rw[hv] at e';cases e'
  ·subst hv
   obtain ⟨cur,h7,_⟩:=bp h2;have:k'=g':=by simpa [Value.ownBlock] using e'
   subst this;rw[h7] at hk;cases hk;cases hc
theorem zR (pre:List az) (x:az) (f:Int):iz (pre++[x]) f=iz pre f++if f≤x.1 then [x] else []:=by unfold iz;rw[List.filter_append];by_cases h:f≤x.1 <;> simp[h]
theorem NK (pre:List az) (f:Int):(iz pre f).length≤pre.length:=List.length_filter_le _ _
theorem NL {w W:World} {B:Nat} {f t:Int} {M:Nat→Prop} {pre:List az} {x:az} (h:GA w B f t M pre W) (hB:w.heap.size+2<B) (hx:x.1<t) (hf:f≤x.1) (hlen:pre.length≤900000) (Bk:Nat) :
 ∃v g cap w2,Boxed W B 76 v∧(Builtin.append_ #[76,76] 76 #[v,.slice (some ⟨W.heap.size,0,none⟩) 1 1]).run Tryz.prog (W.alloc (.cells #[.int .i64 x.1,.int .i64 x.2] 82))=.ok (.slice (some ⟨g,0,none⟩) ((iz pre f).length+1) cap) w2∧Boxed w2 B 76 v ∧
  KeepsFrom Bk W (w2.setCell ⟨B,0,none⟩ (.slice (some ⟨g,0,none⟩) ((iz pre f).length+1) cap))∧fA M W (w2.setCell ⟨B,0,none⟩ (.slice (some ⟨g,0,none⟩) ((iz pre f).length+1) cap))∧GA w B f t M (pre++[x]) (w2.setCell ⟨B,0,none⟩ (.slice (some ⟨g,0,none⟩) ((iz pre f).length+1) cap)):=by
 obtain ⟨v,h1,h2,h3⟩:=h.row;obtain ⟨g,cap,w2,r1,r2,r3,r4⟩:=uL W (B+2) _ v _ x.1 x.2 h2 (by have:=NK pre f;omega) h.sz;obtain ⟨b1,b2,b3,b4,b5,b6,b7,b8⟩:=Ko M h1 h2 (by omega) r2 r3 r4 h.m1 h.ml h3 Bk;have hs:=zR pre x f;rw[if_pos hf] at hs;have hc:∀(k:Nat) (u:Value),k<B→W.cell? ⟨k,0,none⟩=some u→(w2.setCell ⟨B,0,none⟩ (.slice (some ⟨g,0,none⟩) ((iz pre f).length+1) cap)).cell? ⟨k,0,none⟩=some u:=fun k u hk hu=>
  (World.cell?_of_block (a:=⟨k,0,none⟩) (b8 k (by omega) (by omega) (by have:=World.block_lt_of_cell? _ _ hu;exact this))).trans hu
 refine ⟨v,g,cap,w2,h1,r1,b1,b2,b3,⟨⟨_,b4,?_,fun g' e=>?_⟩,h.m1,fun b hb=>by have:=h.ml b hb;omega,by have:=h.sz;omega,hc _ _ (by omega) h.bf,hc _ _ (by omega) h.bt,?_,fun y hy=>?_⟩⟩
 ·rw[hs,List.length_append];exact b5
 ·have:g=g':=by simpa [Value.ownBlock] using e
  subst this;exact b6
 ·have hq:w2.grownBy (w2.setCell ⟨B,0,none⟩ (.slice (some ⟨g,0,none⟩) ((iz pre f).length+1) cap)) (some B):=grownBy_setCell' _ _ _
  exact ⟨hq.os.trans (r3.os.trans h.below.os),hq.tape.trans (r3.tape.trans h.below.tape),hq.output.trans (r3.output.trans h.below.output),Nat.le_trans h.below.size b7,fun k hk=>(b8 k (by omega) (by omega) (by have:=h.below.size;omega)).trans (h.below.block k hk)⟩
 ·rw[List.mem_append,List.mem_singleton] at hy
  rcases hy with hy|rfl
  ·exact h.lt y hy
  ·exact hx
theorem Rz (t:ag) (x y z:Value) (f u:Int) (w:World) (hn:bw w t x y z) (hlen:(aB t).length≤900000):Calls Tryz.prog 159 #[.agg #[x,y,z],.int .i64 f,.int .i64 u] w (Ry t f u w):=by
 obtain ⟨pu,nu,cu,pv,nv,cv,pw,nw,cw,rfl,rfl,rfl⟩:=bc hn;have HN:=aa hn;have HLEN:=aa hlen;clear hn hlen;rw[← callsIn_wide (n:=6)];refine callsIn_of_wp_marks Tryz.func159 rfl trivial ?_ rfl;simp only[Tryz.ntmps159,List.size_toArray,List.length_cons,List.length_nil,Nat.reduceAdd,Nat.reduceSub,Array.replicate_succ,Array.replicate_zero,List.push_toArray,List.append_toArray,List.nil_append,List.cons_append];obtain ⟨WA,kS⟩:∃W,((w.alloc (.cells #[.slice pu nu cu,.slice pv nv cv,.slice pw nw cw] 73)).alloc (.cells #[.int .i64 f] 3)).alloc (.cells #[.int .i64 u] 3)=W:=⟨_,rfl⟩
 have FH:=aa (show gT w.heap.size (.slice pu nu cu) (.slice pv nv cv) (.slice pw nw cw) WA by rw[← kS];exact (VA w _ _ _ _ _).1);have HF0:=aa (show WA.cell? ⟨w.heap.size+1,0,none⟩=some (.int .i64 f)∧WA.cell? ⟨w.heap.size+1+1,0,none⟩=some (.int .i64 u) by rw[← kS];exact (VA w _ _ _ _ _).2);have kI:=aa (show Bw w WA by rw[← kS];exact ((aq).alloc (by simp) _).alloc (by simp;omega) _);have gG:=aa (show WA.heap.size=w.heap.size+3 by rw[← kS];simp);have Vj:=aa kS;clear kS;gi_wp2_with fail;rw[Vj.o];refine ⟨trivial,?_⟩;refine (callsIn_wide.2 (ED t _ _ _ _ (HN.keep (af kI)))).mono ?_;rintro e w1 ⟨rfl,hb⟩;have aU:=aa (FH.below hb);have aZ:=aV kI hb;have Ki:=aa (show w.heap.size+3≤w1.heap.size by have:=hb.size;have:=gG.o;omega);have sN:=aa (show w1.cell? ⟨w.heap.size+1,0,none⟩=some (.int .i64 f)∧w1.cell? ⟨w.heap.size+1+1,0,none⟩=some (.int .i64 u) from ⟨ae hb HF0.1,ae hb HF0.2⟩);clear hb FH HF0 kI gG Vj;obtain ⟨x0,x1,x2⟩:=aU.o;have hlx:=World.block_lt_of_cell? _ _ x0;cases hm:jT t with
 |false=>have HW:=aa (show jV t f u=[] by unfold jV;rw[hm,if_neg (by simp)]);clear hm;gi_wp2_with fail;refine ⟨_,results_tmp rfl _ _ _,_,rfl,?_,aZ⟩;rw[HW.o];exact World.ownsRow_nil _ _ _ _
 |true=>
  have HM:=aa (show cH t 40≠0∧bG t 0=true∧jD (aB t)=true by unfold jT at hm;simpa [and_assoc] using hm);have HW:=aa (show jV t f u=uK (aB t) f u by unfold jV;rw[hm,if_pos rfl]);clear hm;gi_wp2_with fail;refine ⟨trivial,?_⟩;refine (callsIn_wide.2 (NG _ _ _ _)).mono ?_;rintro e w' ⟨rfl,rfl⟩;gi_wp2_with fail;obtain ⟨W0,hW0⟩:∃W,(w1.alloc (.cells #[.slice none 0 0] 76)).alloc (.cells #[.slice pu nu cu,.slice pv nv cv,.slice pw nw cw] 73)=W:=⟨_,rfl⟩
  have hb0:Bw w1 W0:=by rw[← hW0];exact (aq).alloc (by simp) _
  have hs0:W0.heap.size=w1.heap.size+2:=by rw[← hW0];simp
  have fN:Boxed W0 w1.heap.size 76 (.slice none 0 0):=by rw[← hW0];exact (Boxed.new w1 _ _).alloc _
  have hnb:gT (w1.heap.size+1) (.slice pu nu cu) (.slice pv nv cv) (.slice pw nw cw) W0:=by
   rw[← hW0];have:(w1.alloc (.cells #[.slice none 0 0] 76)).heap.size=w1.heap.size+1:=by simp
   rw[← this];exact ⟨by simp,by simp,by simp⟩
  have kR:=aa hs0;have sO:=aa fN;have sF:=aa hnb;have mX:=aV aZ hb0;have Y7:=aa (show W0.cell? ⟨w.heap.size+1,0,none⟩=some (.int .i64 f)∧W0.cell? ⟨w.heap.size+1+1,0,none⟩=some (.int .i64 u) from ⟨ae hb0 sN.1,ae hb0 sN.2⟩);have Kp:=aa hW0;have hsn:w1.heap.size+1=(w1.alloc (.cells #[.slice none 0 0] 76)).heap.size:=by simp
  have yN:=aa hsn;clear hb0 hs0 fN hnb hW0 hsn x0 x1 x2 hlx;rw[Kp.o];have hseq:=NH 5 (w1.heap.size+1) (fun b=>b<w.heap.size∨b=w1.heap.size+1) t 0 _ _ _ W0 HM.2.1 (HN.keep (fun q v hv=>ar.2 ⟨.inl (World.block_lt_of_cell? _ _ hv),ae mX hv⟩)) sF.o;have hBB:w.heap.size+2<w1.heap.size:=by have:=Ki.o;omega
  refine iy (n:=6) (gf:=215) (lb := #[.pointer (some ⟨w1.heap.size+1,0,none⟩)]) (by omega) rfl (enters_of Tryz.func215 (by kernel_rfl) rfl) hseq ?hM (fun _=>rfl) (GA w w1.heap.size f u)
   (fun c pre W=>c=.exit 0∧∃q x,pre=q++[x]∧u≤x.1∧∃M,GA w w1.heap.size f u M q W) ?i1 ?i2 ?x1 ?x2 ?start
   (fun _ x a' W=>∃Bx,w1.heap.size+2≤Bx∧W.heap[Bx]?=some (.cells #[.int .i64 x.1,.int .i64 x.2] 82 (0,0))∧a'={tmps := #[.agg #[.slice pu nu cu,.slice pv nv cv,.slice pw nw cw],.int .i64 f,.int .i64 u,.pointer (some ⟨w.heap.size,0,none⟩),.pointer (some ⟨w.heap.size+1,0,none⟩),.pointer (some ⟨w.heap.size+1+1,0,none⟩),.slice none 0 0,.pointer (some ⟨w1.heap.size,0,none⟩),.pointer (some ⟨Bx,0,none⟩),.agg #[.slice pu nu cu,.slice pv nv cv,.slice pw nw cw],.bool true,.bool false,.agg #[.slice pu nu cu,.slice pv nv cv,.slice pw nw cw],.func (.func 215) #[] #[.pointer (some ⟨w1.heap.size+1,0,none⟩)],.agg #[.int .i64 x.1,.int .i64 x.2],uu,uu,uu,uu,uu,uu,uu,uu,uu,uu,uu,uu,uu],defers:=[]}) ?ax ?assign ?body ?done ?stop
  case hM=>
   intro b hb;rcases hb with hb|hb
   ·have:=mX.size;omega
   ·have:=kR.o;omega
  case i1=>exact fun M M' s A B h hg hn=>h.kept hBB hg (fun r e=>by cases e) hn
  case i2=>exact fun M s A B r o h hg hr ho hc=>h.kept hBB hg (fun r' e=>by cases e;exact ⟨by have:=kR.o;omega,o,ho,hc⟩) (fun b hb=>.inl hb)
  case x1=>rintro c s A B ⟨rfl,q,x,h1,h2,M,h3⟩ hg;exact ⟨rfl,q,x,h1,h2,M,h3.kept hBB hg (fun r e=>by cases e) (fun b hb=>.inl hb)⟩
  case x2=>rintro c s A B r o ⟨rfl,q,x,h1,h2,M,h3⟩ hg hr ho hc;exact ⟨rfl,q,x,h1,h2,M,h3.kept hBB hg (fun r' e=>by cases e;exact ⟨by have:=kR.o;omega,o,ho,hc⟩) (fun b hb=>.inl hb)⟩
  case start=>
   refine ⟨⟨_,sO,World.ownsRow_nil _ _ _ _,fun g e=>by cases e⟩,?_,?_,by have:=kR.o;omega,Y7.1,Y7.2,mX,fun y hy=>by simp at hy⟩
   ·rintro (h|h)
    ·omega
    ·omega
   ·rintro b (h|h)
    ·have:=mX.size;omega
    ·have:=kR.o;omega
  case ax=>rintro M x a' A B r o ⟨Bx,h1,h2,rfl⟩ hg hr ho hc;refine ⟨Bx,h1,(hg.block Bx (Array.getElem?_eq_some_iff.1 h2).1 (fun e=>?_)).trans h2,rfl⟩;injection e with e;subst e;rw[h2] at ho;cases ho;cases hc
  case assign=>
   intro l M pre x W K hi hK;have hsz:=hi.sz
   dsimp only[Vx]
   gi_wp2;exact hK _ _ (World.grownBy_alloc _ _ _) ⟨W.heap.size,hsz,World.alloc_heap_new _ _,rfl⟩
  case body=>
   rintro l M pre x a' W hi ⟨Bx,hBx,fN,rfl⟩ hlen;have HI:=aa hi;have c0:W.cell? ⟨Bx,0,none⟩=some (.int .i64 x.1):=by simp[World.cell?,fN]
   have c1:W.cell? ⟨Bx,1,none⟩=some (.int .i64 x.2):=(by simp[World.cell?,fN]);have cf:=hi.bf;have ct:=hi.bt;have hpl:pre.length≤900000:=by have h1:=HLEN.o;have h2:=hlen.length_le;rw[List.length_append] at h2;omega
   clear hi fN hseq;by_cases hu:u≤x.1
   ·have HU:=aa hu
    gi_wp2;exact ⟨KeepsFrom.refl _ _,rfl,pre,x,rfl,HU,M,HI⟩
   ·have Vo:¬u≤x.1:=hu
    by_cases hf:f≤x.1
    ·obtain ⟨v,g,cap,w2,k1,k2,k3,k4,k5,k6⟩:=NL HI hBB (by omega) hf hpl W0.heap.size
     have HR:=aa k2;have NF:=aa k4;have VB:=aa k5;have HK6:=aa k6;have hv:=k1.cell;have hv2:=k3.cell;have hv3:=k3.frozen;clear k1 k2 k3 k4 k5 k6;gi_wp2_with (gi_at_builtin;refine lx _ rfl _ _ _ rfl _ _ rfl rfl _ _ HR.o ?_);exact ⟨NF,VB,HK6⟩
    ·have XZ:=aa (show GA w w1.heap.size f u M (pre++[x]) W from
      {row:=by
        obtain ⟨v,h1,h2,h3⟩:=HI.row;have ht:=zR pre x f;rw[if_neg hf,List.append_nil] at ht;exact ⟨v,h1,by rw[ht];exact h2,h3⟩
       m1:=HI.m1,ml:=HI.ml,sz:=HI.sz,bf:=HI.bf,bt:=HI.bt,below:=HI.below
       lt:=fun y hy=>by
        rw[List.mem_append,List.mem_singleton] at hy;rcases hy with hy|rfl
        ·exact HI.lt y hy
        ·omega})
     gi_wp2;exact ⟨KeepsFrom.refl _ _,fA.refl _ _,XZ⟩
  case done=>
   rintro D M W hD hi hK;have HI:=aa hi;obtain ⟨v,h1,h2,h3⟩:=hi.row;have hc:=h1.cell;have HR:=aa (show iz (aB t) f=jV t f u by rw[HW.o];exact GD HI.lt);have H2:=aa h2;clear h1 h2 h3 hi hseq;gi_wp2;refine ⟨by simp,.inl ⟨_,_,rfl,run_takeDeferred hK,?_⟩⟩;refine ⟨_,results_tmp rfl _ _ _,_,rfl,?_,?_⟩
   ·rw[← HR.o];exact bC (by omega) (ownsRow_putObj H2 _ hK rfl)
   ·exact HI.below.trans (belowK_b (w:=w) aT W D _ _ (by have:=mX.size;omega) hK rfl rfl)
  case stop=>
   rintro D c pre W hD hp ⟨rfl,q,x,rfl,hu,M,hi⟩ hK;have HI:=aa hi;obtain ⟨v,h1,h2,h3⟩:=hi.row;have hc:=h1.cell;have HR:=aa (show iz q f=jV t f u by rw[HW.o];exact NI HM.2.2 hp HI.lt hu);have H2:=aa h2;clear h1 h2 h3 hi hseq hp hu;gi_wp2;refine ⟨by simp,.inl ⟨_,_,rfl,run_takeDeferred hK,?_⟩⟩;refine ⟨_,results_tmp rfl _ _ _,_,rfl,?_,?_⟩
   ·rw[← HR.o];exact bC (by omega) (ownsRow_putObj H2 _ hK rfl)
   ·exact HI.below.trans (belowK_b (w:=w) aT W D _ _ (by have:=mX.size;omega) hK rfl rfl)
attribute [local go_sem] Oper.semAt_some
def VD (x:az):Array Value := #[.int .i64 x.1,.int .i64 x.2]
theorem zS (x y z:Value) (f u:Int) (w:World):Calls Tryz.prog 122 #[.agg #[x,y,z],.int .i64 f,.int .i64 u] w fun e w'=>e=.returned (.func (.func 158) #[] #[.pointer (some ⟨w.heap.size,0,none⟩),.pointer (some ⟨w.heap.size+1,0,none⟩),.pointer (some ⟨w.heap.size+1+1,0,none⟩)]) ∧
 w'=((w.alloc (.cells #[x,y,z] 73)).alloc (.cells #[.int .i64 f] 3)).alloc (.cells #[.int .i64 u] 3):=by
 go_enter Tryz.func122,Tryz.ntmps122;go_wp2_with fail;go_ret;exact ⟨rfl,rfl⟩
theorem RB {w:World} {B g cap n:Nat} {l:List az} (h:w.ownsRow B 82 2 (.slice (some ⟨g,0,none⟩) n cap) n (bN l).flatten) {i:Nat} {x:az} (hx:l[i]?=some x):w.cell? ⟨g,i*2,none⟩=some (.int .i64 x.1)∧w.cell? ⟨g,i*2+1,none⟩=some (.int .i64 x.2):=by
 obtain ⟨h1,h2⟩:=tu l i x hx;have hi:=(List.getElem?_eq_some_iff.1 hx).1;have hl:=vR l;constructor
 ·have:=bJ h (i*2) (by omega)
  rw[List.getElem?_eq_getElem (by omega)] at h1;rw[this];exact h1
 ·have:=bJ h (i*2+1) (by omega)
  rw[List.getElem?_eq_getElem (by omega)] at h2;rw[this];exact h2
theorem zT (n B:Nat) (M₀:Nat→Prop) (t:ag) (f u:Int) (x y z:Value) (w:World) (hn:bw (mask M₀ w) t x y z) (hlen:(aB t).length≤900000) (hx:gT B x y z w) (hf:w.cell? ⟨B+1,0,none⟩=some (.int .i64 f)) (hu:w.cell? ⟨B+1+1,0,none⟩=some (.int .i64 u)) :
 NB n Tryz.prog 158 #[.pointer (some ⟨B,0,none⟩),.pointer (some ⟨B+1,0,none⟩),.pointer (some ⟨B+1+1,0,none⟩)] VD M₀ (jV t f u) w:=by
 obtain ⟨L,hL⟩:=aG (jV t f u);rw[hL];have ou:=aa hL;clear hL;intro l J Jx W hW Ms hJ2 hY h0;obtain ⟨pu,nu,cu,pv,nv,cv,pw,nw,cw,rfl,rfl,rfl⟩:=bc hn;obtain ⟨x0,x1,x2⟩:=hx.below hW;have y1:=ae hW hf;have y2:=ae hW hu;have VE:=aa (Rz t _ _ _ f u W ((hn.keep nO).keep (af hW)) hlen);have H1:=aa Ms;have HY:=aa hY;have H0:=aa h0;clear hn hx hf hu hW Ms hJ2 hY h0 hlen;refine callsIn_of_wp Tryz.func158 rfl trivial ?_ rfl;simp only[Tryz.ntmps158,List.size_toArray,List.length_cons,List.length_nil,Nat.reduceAdd,Nat.reduceSub,Array.replicate_succ,Array.replicate_zero,List.push_toArray,List.append_toArray,List.nil_append,List.cons_append];gi_wp2_with fail;refine ⟨trivial,fun h=>(by cases h),?_⟩;refine (callsIn_wide.2 VE).mono ?_;rintro e W2 ⟨v,rfl,hrow,hb⟩;rw[ou.o] at hrow;have HJ:=aa (show J (fun b=>M₀ b∨(W.heap.size≤b∧b<W2.heap.size)) [] W2 from H1 M₀ _ [] W W2 H0 (aS hb none) (fun b hb=>hb));have VF:∃p cap,v=.slice p L.length cap∧L.length≤maxLen:=by
  rcases aK hrow with ⟨h1,h2,_⟩|⟨g,cap,h1⟩
  ·exact ⟨none,0,by rw[h1,h2],by unfold maxLen;omega⟩
  ·rw[h1] at hrow;obtain ⟨_,_,_,h3,h4,_⟩:=bp hrow;exact ⟨_,cap,h1,by omega⟩
 obtain ⟨p,cap,rfl,Y8⟩:=VF;obtain ⟨N,hN⟩:=aG L.length;have bY:=aa hrow;have lz:=aa hN;rw[hN] at Y8 ⊢;rw[hN] at bY;have hlc:=fK (n:=N) Y8;clear hrow hb x0 x1 x2 y1 y2 hN Y8;gi_wp2_with fail;gi_loopw [12,6] (fun i _ wr=>∃k:Nat,k≤N∧i=.int .i64 k∧J (fun b=>M₀ b∨(W.heap.size≤b∧b<W2.heap.size)) (L.take k) wr∧fA (fun b=>M₀ b∨(W.heap.size≤b∧b<W2.heap.size)) W2 wr) (fun i _ _=>N-(intOf i).toNat)
 case atStart=>exact ⟨0,dQ,rfl,by rw[List.take_zero];exact HJ,fA.refl _ _⟩
 case round=>
  obtain ⟨k,hk,rfl,hj,tF⟩:=hrel;have CR:=aa hj;have kg:=aa tF;clear hj tF;by_cases hlt:k<N
  case neg=>
   obtain rfl:k=N:=by omega
   have HT:=aa (show L.take k=L from List.take_of_length_le (by rw[lz.o];exact aT));gi_wp2_with fail;go_end0;exact ⟨⟨_,rfl⟩,Or.inl ⟨_,by have:=CR.o;rw[HT.o] at this;exact this⟩⟩
  have fO:(k:Int)<(N:Int):=by omega
  obtain ⟨x,hx⟩:=fy (l:=L) (k:=k) (by rw[lz.o];exact hlt);rcases aK bY.o with ⟨_,h2,_⟩|⟨g,cap',h1⟩
  ·omega
  injection h1 with h1 _ h3;subst h1 h3;obtain ⟨c0,c1⟩:=RB bY hx;have Y9:W.heap.size≤g∧g<W2.heap.size:=bY.lt g rfl;have r0:=kg.cell (.inr Y9) c0;have r1:=kg.cell (.inr Y9) c1;have JP:=aa (oW hx);have hg3:wr.grownBy (wr.alloc (.cells #[.int .i64 x.1,.int .i64 x.2] 82)) none:=World.grownBy_alloc _ _ _;have HG3:=aa hg3;have Ru:J (fun b=>M₀ b∨(W.heap.size≤b∧b<W2.heap.size)) (L.take k) (wr.alloc (.cells #[.int .i64 x.1,.int .i64 x.2] 82)):=H1.o _ _ _ wr _ CR hg3 (fun b hb=>.inl hb);obtain ⟨fn,tmps,assign,body,Rt,hR⟩:=HY.o (n-1) _ _ x _ Ru (by rw[← JP.o];exact List.take_prefix _ _);simp only[VD] at Rt;clear hx c0 c1 Y9 hg3 Ru;gi_wp2_with fail;refine ⟨fun h=>(by cases h),?_⟩;refine hR.mono ?_;rintro e W4 (⟨rfl,Mu,hk4⟩|⟨rfl,Mv⟩)
  ·have Rx:=aa Mu;have NF:=aa ((kg.trans (fA.grown HG3 (fun r e=>by cases e))).trans hk4)
   clear Mu hk4 r0 r1;gi_wp2_with fail;go_roundw
   case rel=>exact ⟨k+1,by omega,by go_num,by rw[JP.o];exact Rx.o,NF.o⟩
   case measure=>simp[intOf];omega
  ·have jQ:=aa Mv
   clear Mv r0 r1;gi_wp2_with fail;refine bodyPost_ret (results_none rfl _ _ _) rfl ?_;exact ⟨⟨_,rfl⟩,Or.inr ⟨L.take (k+1),List.take_prefix _ _,by rw[JP.o];exact jQ⟩⟩
attribute [local go_sem] Oper.semAt_some
def EE:Int := -9223372036854775808
theorem GK {d:dy} {w:World} {a b c:Value} (hn:bw w d.map a b c) (h:1≤d.id∧d.id≤1000∧0≤d.size∧d.size≤100000) (hm:jT d.map=true) :
 cI d=(!yS d.map&&(jV d.map EE lB).all (dH d.size)):=by
 have hb:=nZ _ hn;have hw:jV d.map EE lB=(aB d.map).filter (fun x=>decide (x.1<lB)):=by unfold jV uK;rw[if_pos hm];apply List.filter_congr;intro x hx;unfold inB;rw[decide_eq_true (show EE≤x.1 from (hb x hx).1.1),Bool.true_and]
 have hmx:yS d.map=decide (lB∈dW d.map):=by unfold yS;rw[hm,Bool.true_and]
 unfold cI;rw[decide_eq_true h,hm,Bool.true_and,Bool.true_and,hw,hmx,Bool.eq_iff_iff];simp only[List.all_eq_true,Bool.and_eq_true,Bool.not_eq_true',decide_eq_false_iff_not,List.mem_filter,decide_eq_true_eq];constructor
 ·intro hall
  refine ⟨fun hk=>?_,fun x hx=>hall x hx.1⟩;unfold dW at hk;rw[List.mem_map] at hk;obtain ⟨x,hx,he⟩:=hk;have:=hall x hx;unfold dH at this;simp only[Bool.and_eq_true,decide_eq_true_eq] at this;unfold lB at he;omega
 ·rintro ⟨hk,hall⟩ x hx
  refine hall x ⟨hx,?_⟩;have h1:=(hb x hx).1.2;by_cases he:x.1=lB
  ·exact absurd (by unfold dW;rw[List.mem_map];exact ⟨x,hx,he⟩) hk
  ·unfold lB at *;omega
structure VG (w:World) (S:Int) (M:Nat→Prop) (pre:List az) (W:World):Prop where
 box:Boxed W (w.heap.size+1) 4 (.bool false)
 sz:W.cell? ⟨w.heap.size,1,none⟩=some (.int .i64 S)
 m1:¬M (w.heap.size+1)
 ml:∀b,M b→b<W.heap.size
 below:Bw w W
 all:∀x∈pre,dH S x=true
theorem VG.kept {w:World} {S:Int} {M M':Nat→Prop} {pre:List az} {A C:World} {row:Option Nat} (h:VG w S M pre A) (hg:A.grownBy C row) (hr:∀r,row=some r→w.heap.size+2≤r) (hn:New M M' A C):VG w S M' pre C:=by
 have QK:∀b,b<w.heap.size+2→some b≠row:=fun b hb e=>by have:=hr b e.symm;omega
 refine ⟨h.box.kept hg (QK _ (by omega)),hg.cell h.sz (QK _ (by show w.heap.size<_;omega)),fun hm=>?_,fun b hm=>?_,?_,h.all⟩
 ·rcases hn _ hm with hm|hm
  ·exact h.m1 hm
  ·have:=h.box.lt;omega
 ·rcases hn b hm with hm|hm
  ·have:=h.ml b hm;have:=hg.size;omega
  ·exact hm.2
 ·exact ⟨hg.os.trans h.below.os,hg.tape.trans h.below.tape,hg.output.trans h.below.output,Nat.le_trans h.below.size hg.size,fun k hk=>(hg.block k (by have:=h.below.size;omega) (QK k (by omega))).trans (h.below.block k hk)⟩
def adu (w:World) (S:Int) (c:Code) (pre:List az) (W:World):Prop:=c=.ret∧Boxed W (w.heap.size+1) 4 (.bool false)∧Bw w W∧∃x∈pre,dH S x=false
def oX (t:ag):Prop:=(aB t).length≤600000
theorem dN.big {t:ag} (h:dN t):oX t:=by unfold dN at h;unfold oX;omega
theorem NQ (d:dy) (v:Value) (w:World) (hv:vK w v d) (hlen:oX d.map):Calls Tryz.prog 157 #[v] w fun e w'=>e=.returned (.bool (cI d))∧Bw w w':=by
 obtain ⟨a,b,c,rfl,_,_,hn⟩:=hv;obtain ⟨pu,nu,cu,pv,nv,cv,pw,nw,cw,rfl,rfl,rfl⟩:=bc hn;obtain ⟨I,hI⟩:=aG d.id;obtain ⟨S,hS⟩:=aG d.size;have HN:=aa hn;have HLEN:=aa hlen;have HIE:=aa hI;have vI:=aa hS;rw[hI,hS];clear hn hlen hI hS;obtain ⟨WA,kS⟩:∃W,(w.alloc (.cells #[.int .i64 I,.int .i64 S,.slice pu nu cu,.slice pv nv cv,.slice pw nw cw] 75)).alloc (.cells #[.bool false] 4)=W:=⟨_,rfl⟩
 have FH:=aa (show pU w.heap.size (.int .i64 I) (.int .i64 S) (.slice pu nu cu) (.slice pv nv cv) (.slice pw nw cw) WA by rw[← kS];exact pU.below (w:=w.alloc (.cells #[.int .i64 I,.int .i64 S,.slice pu nu cu,.slice pv nv cv,.slice pw nw cw] 75)) ⟨by simp,by simp,by simp,by simp,by simp⟩ (aq));have xI:=aa (show Boxed WA (w.heap.size+1) 4 (.bool false) by
  rw[← kS];have:=Boxed.new (w.alloc (.cells #[.int .i64 I,.int .i64 S,.slice pu nu cu,.slice pv nv cv,.slice pw nw cw] 75)) 4 (.bool false)
  rwa [World.size_alloc] at this)
 have kI:=aa (show Bw w WA by rw[← kS];exact (aq).alloc (by simp) _);have Vj:=aa kS;clear kS;rw[← callsIn_wide (n:=6)];refine callsIn_of_wp_marks Tryz.func157 rfl trivial ?_ rfl;simp only[Tryz.ntmps157,List.size_toArray,List.length_cons,List.length_nil,Nat.reduceAdd,Nat.reduceSub,Array.replicate_succ,Array.replicate_zero,List.push_toArray,List.append_toArray,List.nil_append,List.cons_append];obtain ⟨x0,x1,x2,x3,x4⟩:=FH.o;have rc:=xI.cell;have rf:=xI.frozen;by_cases hA:1≤I∧I≤1000∧0≤S∧S≤100000
 case neg=>
  have HF:=aa (show cI d=false by unfold cI;rw[HIE.o,vI.o,decide_eq_false hA];simp);have hc:(decide (I<1)=true)∨(decide (I<1)=false∧decide (1000<I)=true)∨(decide (I<1)=false∧decide (1000<I)=false∧decide (S<0)=true)∨(decide (I<1)=false∧decide (1000<I)=false∧decide (S<0)=false∧decide (100000<S)=true):=by simp only[decide_eq_true_eq,decide_eq_false_iff_not];omega
  clear hA;have kS:=Vj.o;rcases hc with h1|⟨h1,h2⟩|⟨h1,h2,h3⟩|⟨h1,h2,h3,h4⟩
  all_goals
   gi_wp2_with fail;have hb:=xI.set (.bool false);have RD:=hb.cell;exact ⟨.bool false,by simp[results,Tryz.results157,go_sem,RD],aO HF.o.symm,kI.o.setCell (Nat.le_succ _) _⟩
 have h1:decide (I<1)=false:=by simp only[decide_eq_false_iff_not];omega
 have h2:decide (1000<I)=false:=by simp only[decide_eq_false_iff_not];omega
 have h3:decide (S<0)=false:=by simp only[decide_eq_false_iff_not];omega
 have h4:decide (100000<S)=false:=by simp only[decide_eq_false_iff_not];omega
 have HA:=aa hA;clear hA;have kS:=Vj.o;gi_wp2_with fail;clear kS h1 h2 h3 h4 Vj;refine ⟨trivial,?_⟩;refine (callsIn_wide.2 (ED d.map _ _ _ _ (HN.keep (af kI)))).mono ?_;rintro e w1 ⟨rfl,hb⟩;have aU:=aa (FH.below hb);have Ck:=aa (show Boxed w1 (w.heap.size+1) 4 (.bool false) from xI.kept (aS hb none) (by simp));have aZ:=aV kI hb;clear hb x0 x1 x2 x3 x4 rc rf FH xI kI;obtain ⟨x0,x1,x2,x3,x4⟩:=aU.o;have rc:=Ck.cell;have rf:=Ck.frozen;cases hm:jT d.map with
 |false=>have HF:=aa (show cI d=false by unfold cI;rw[hm];simp);clear hm;gi_wp2_with fail;have hb:=Ck.set (.bool false);have RD:=hb.cell;exact ⟨.bool false,by simp[results,Tryz.results157,go_sem,RD],aO HF.o.symm,aZ.o.setCell (Nat.le_succ _) _⟩
 |true=>
  have NR:=aa (GK HN (by rw[HIE.o,vI.o];exact HA) hm);clear hm;gi_wp2_with fail;refine ⟨trivial,?_⟩;refine (callsIn_wide.2 (Vt d.map _ _ _ _ (show Hid (_=lB) from rfl) _ (HN.keep (af aZ)))).mono ?_;rintro e w2 ⟨gv,rfl,hb⟩;have dY:=aa (aU.below hb);have js:=aa (show Boxed w2 (w.heap.size+1) 4 (.bool false) from Ck.kept (aS hb none) (by simp));have bU:=aV aZ hb;clear hb x0 x1 x2 x3 x4 rc rf aU Ck aZ;obtain ⟨x0,x1,x2,x3,x4⟩:=dY.o;have rc:=js.cell;have rf:=js.frozen;cases hx:yS d.map with
  |true=>have HF:=aa (show cI d=false by rw[NR.o,hx];rfl);clear hx;gi_wp2_with fail;have hb:=js.set (.bool false);have RD:=hb.cell;exact ⟨.bool false,by simp[results,Tryz.results157,go_sem,RD],aO HF.o.symm,bU.o.setCell (Nat.le_succ _) _⟩
  |false=>
   have HF:=aa (show cI d=(jV d.map EE lB).all (dH S) by rw[NR.o,hx,vI.o];rfl);clear hx;gi_wp2_with fail;refine ⟨trivial,?_⟩;refine (callsIn_wide.2 (zS _ _ _ EE lB _)).mono ?_;rintro e w' ⟨rfl,rfl⟩;gi_wp2_with fail;obtain ⟨W0,hW0⟩:∃W,((w2.alloc (.cells #[.slice pu nu cu,.slice pv nv cv,.slice pw nw cw] 73)).alloc (.cells #[.int .i64 EE] 3)).alloc (.cells #[.int .i64 lB] 3)=W:=⟨_,rfl⟩
   have hb3:=VA w2 (.slice pu nu cu) (.slice pv nv cv) (.slice pw nw cw) (.int .i64 EE) (.int .i64 lB);have hb0:Bw w2 W0:=by rw[← hW0];exact ((aq).alloc (by simp) _).alloc (by simp;omega) _
   rw[hW0] at hb3 ⊢;have dG:=aa hb3;have mX:=aV bU hb0;have UB:=aa (show Boxed W0 (w.heap.size+1) 4 (.bool false) from js.kept (aS hb0 none) (by simp));have HSW:=aa (show W0.cell? ⟨w.heap.size,1,none⟩=some (.int .i64 S) from ae hb0 x1);have hs2:w.heap.size+2≤W0.heap.size:=by have:=UB.lt;omega
   have hseq:=zT 5 w2.heap.size (fun b=>b<w.heap.size) d.map EE lB _ _ _ W0 (HN.keep (fun q v hv=>ar.2 ⟨World.block_lt_of_cell? _ _ hv,ae mX hv⟩)) (by have:=HLEN.o;unfold oX at this;omega) dG.1 dG.2.1 dG.2.2;clear hb3 hb0 hW0 x0 x1 x2 x3 x4 rc rf;refine iy (n:=6) (gf:=158) (lb := #[.pointer (some ⟨w2.heap.size,0,none⟩),.pointer (some ⟨w2.heap.size+1,0,none⟩),.pointer (some ⟨w2.heap.size+1+1,0,none⟩)]) (by omega) rfl (enters_of Tryz.func158 (by kernel_rfl) rfl) hseq ?hM (fun _=>rfl) (VG w S)
    (adu w S) ?i1 ?i2 ?x1 ?x2 ?start
    (fun _ x a' _=>a'={tmps := #[.agg #[.int .i64 I,.int .i64 S,.slice pu nu cu,.slice pv nv cv,.slice pw nw cw],.pointer (some ⟨w.heap.size,0,none⟩),.pointer (some ⟨w.heap.size+1,0,none⟩),.int .i64 gv,.bool false,.int .i64 x.1,.int .i64 x.2,uu,uu,.pointer (some ⟨w.heap.size,0,none⟩),.int .i64 I,.bool false,.bool false,.pointer (some ⟨w.heap.size,0,none⟩),.int .i64 I,.bool false,.bool false,.bool false,.pointer (some ⟨w.heap.size,1,none⟩),.int .i64 S,.bool false,.bool false,.bool false,.pointer (some ⟨w.heap.size,1,none⟩),.int .i64 S,.bool false,.bool false,.pointer (some ⟨w.heap.size,2,none⟩),.agg #[.slice pu nu cu,.slice pv nv cv,.slice pw nw cw],.bool true,.bool false,.tuple #[.int .i64 gv,.bool false],.pointer (some ⟨w.heap.size,2,none⟩),.agg #[.slice pu nu cu,.slice pv nv cv,.slice pw nw cw],.tuple #[.int .i64 gv,.bool false],.int .i64 gv,.bool false,.bool false,.pointer (some ⟨w.heap.size,2,none⟩),.agg #[.slice pu nu cu,.slice pv nv cv,.slice pw nw cw],.func (.func 158) #[] #[.pointer (some ⟨w2.heap.size,0,none⟩),.pointer (some ⟨w2.heap.size+1,0,none⟩),.pointer (some ⟨w2.heap.size+1+1,0,none⟩)],.int .i64 x.1,.int .i64 x.2,uu,uu,uu,uu,uu,uu,uu,uu,uu,uu,uu,uu,uu,uu,uu],defers:=[]}) ?ax ?assign ?body ?done ?stop
   case hM=>intro b hb;have:=mX.size;omega
   case i1=>exact fun M M' s A B h hg hn=>h.kept hg (fun r e=>by cases e) hn
   case i2=>exact fun M s A B r o h hg hr ho hc=>h.kept hg (fun r' e=>by cases e;omega) (fun b hb=>.inl hb)
   case x1=>rintro c s A B ⟨rfl,h1,h2,h3⟩ hg;exact ⟨rfl,h1.kept hg (by simp),⟨hg.os.trans h2.os,hg.tape.trans h2.tape,hg.output.trans h2.output,Nat.le_trans h2.size hg.size,fun k hk=>(hg.block k (by have:=h2.size;omega) (by simp)).trans (h2.block k hk)⟩,h3⟩
   case x2=>
    rintro c s A B r o ⟨rfl,h1,h2,h3⟩ hg hr ho hc;have hne:∀k,k<w.heap.size+2→some k≠some r:=fun k hk e=>by injection e with e;omega
    exact ⟨rfl,h1.kept hg (hne _ (by omega)),⟨hg.os.trans h2.os,hg.tape.trans h2.tape,hg.output.trans h2.output,Nat.le_trans h2.size hg.size,fun k hk=>(hg.block k (by have:=h2.size;omega) (hne k (by omega))).trans (h2.block k hk)⟩,h3⟩
   case start=>exact ⟨UB,HSW,by omega,fun b hb=>by have:=mX.size;omega,mX,fun x hx=>by simp at hx⟩
   case ax=>exact fun M x a' A B r o h hg hr ho hc=>h
   case assign=>
    intro l M pre x W K hi hK
    dsimp only[VD]
    gi_wp2;exact hK _ _ ⟨rfl,rfl,rfl,aT,fun _ _ _=>rfl⟩ rfl
   case body=>
    rintro l M pre x a' W hi rfl hlen;have HI:=aa hi;have cs:=hi.sz;have rb:=hi.box.cell;have rf:=hi.box.frozen;clear hi hseq;by_cases zM:x.1<0
    ·have HP:=aa (show dH S x=false by unfold dH;rw[decide_eq_false (by omega),Bool.and_false])
     have QE:decide (x.1<0)=true:=decide_eq_true zM;gi_wp2;exact ⟨(KeepsOthers.setCell _ _ _).from _,rfl,HI.box.set _,HI.below.setCell (Nat.le_succ _) _,x,by simp,HP⟩
    ·have QE:decide (x.1<0)=false:=decide_eq_false zM
     by_cases Gq:S≤x.1
     ·have HP:=aa (show dH S x=false by unfold dH;rw[decide_eq_false (by omega),Bool.and_false])
      gi_wp2;exact ⟨(KeepsOthers.setCell _ _ _).from _,rfl,HI.box.set _,HI.below.setCell (Nat.le_succ _) _,x,by simp,HP⟩
     ·have hhj:¬S≤x.1:=Gq
      have zU:x∈aB d.map:=by
       have h1:x∈jV d.map EE lB:=hlen.subset (by simp);unfold jV at h1
       split at h1
       ·unfold uK at h1;exact (List.mem_filter.1 h1).1
       ·simp at h1
      have XQ:=aa ((nZ _ HN) x zU).2;clear zU;gi_wp2_with fail;refine ⟨trivial,?_⟩;refine (CallsIn.inRound l (callsIn_wide.2 (vT x.2 XQ.1 XQ.2 W))).mono ?_;rintro e w3 ⟨rfl,hb⟩;obtain ⟨⟨rc,rp,rs,rb'⟩,Gp⟩:∃r,Kb x.2=r:=⟨_,rfl⟩
      rw[Gp];simp only[aA.agg];obtain ⟨B2,Ut⟩:∃b,sD x.2=b:=⟨_,rfl⟩
      rw[Ut];have hg4:W.grownBy (w3.alloc (.cells #[.int .i64 rc,.int .i64 rp,.int .i64 rs,.bool rb'] 50)) none:=(aS hb none).trans (World.grownBy_alloc _ _ _);have X0:=aa (HI.kept (M':=M) hg4 (fun r e=>by cases e) (fun b hb=>.inl hb));have QL:=aa hg4;have CU:=aa (HI.kept (M':=M) (aS hb none) (fun r e=>by cases e) (fun b hb=>.inl hb));have HG3:=aa (aS hb none);have HP:=aa (show dH S x=B2 by unfold dH;rw[Ut,decide_eq_true (by omega),Bool.and_true]);have rb4:=X0.box.cell;have rf4:=X0.box.frozen;have hlx:w.heap.size+1<w3.heap.size:=by have:=(HI.box.kept (aS hb none) (by simp)).lt;exact this
      clear hb Gp Ut hg4 hlen cs rb rf;cases B2 with
      |true=>
       gi_wp2_with fail;refine ⟨KeepsFrom.of_grownBy QL (fun j e=>by cases e),fA.grown QL (fun r e=>by cases e),X0.box,X0.sz,X0.m1,X0.ml,X0.below,fun y hy=>?_⟩;rw[List.mem_append,List.mem_singleton] at hy;rcases hy with hy|rfl
       ·exact X0.all y hy
       ·exact HP.o
      |false=>gi_wp2_with fail;exact ⟨((KeepsFrom.of_grownBy HG3 (fun j e=>by cases e)).trans ((KeepsOthers.setCell _ _ _).from _)).trans ((KeepsOthers.alloc _ _).from _),rfl,(CU.box.set _).alloc _,(CU.below.setCell (Nat.le_succ _) _).alloc (by have:=CU.below.size;simpa using this) _,x,by simp,HP⟩
   case done=>
    rintro D M W hD hi hK;have HI:=aa hi;have rb:=hi.box.cell;have rf:=hi.box.frozen;have HR:=aa (show cI d=true by rw[HF.o,List.all_eq_true];exact HI.all);clear hi hseq;gi_wp2;have hK2:(W.setCell ⟨w.heap.size+1,0,none⟩ (.bool true)).heap[D]?=some (.deferred (some [])):=by rw[Below.heap_setCell _ _ _ D (by show D≠w.heap.size+1;omega)];exact hK
    refine ⟨by simp,.inl ⟨_,_,rfl,run_takeDeferred hK2,?_⟩⟩;have hb:=(HI.box.set (.bool true)).kept (grownBy_putObj' _ D (.deferred none)) (by intro e;injection e with e;omega);have RD:=hb.cell;exact ⟨.bool true,by simp[results,Tryz.results157,go_sem,RD],aO HR.o.symm,(HI.o.below.setCell (p:=⟨w.heap.size+1,0,none⟩) (Nat.le_succ _) _).trans (belowK_b (w:=w) aT _ D _ _ (by omega) hK2 rfl rfl)⟩
   case stop=>rintro D c pre W hD hp ⟨rfl,h1,h2,x,hx,hno⟩ hK;have HR:=aa (show cI d=false by rw[HF.o,List.all_eq_false];exact ⟨x,hp.subset hx,by rw[hno];simp⟩);have H1:=aa h1;have H2:=aa h2;clear h1 h2 hseq hp hx hno;gi_wp2;refine ⟨by simp,.inl ⟨_,_,rfl,run_takeDeferred hK,?_⟩⟩;have hb:=H1.kept (grownBy_putObj' _ D (.deferred none)) (by intro e;injection e with e;omega);have RD:=hb.cell;exact ⟨.bool false,by simp[results,Tryz.results157,go_sem,RD],aO HR.o.symm,H2.o.trans (belowK_b (w:=w) aT _ D _ _ (by omega) hK rfl rfl)⟩
end Go.Proofs.YtbigkioechkngaaGreat
namespace Go.Proofs.YtbigkioechkngaaGreat
open Go.RowKit
theorem EF {l:List dy} (h:64<l.length):dR l=false:=by rw[← Bool.not_eq_true,dw];rintro ⟨_,_,h3⟩;omega
def zV (l:List dy):Prop:=∀d∈l,oX d.map
theorem CV (x:List dy) (v1:Value) (w:World) (h1:eU w v1 x) (l1:zV x):Calls Tryz.prog 120 #[v1] w fun e w'=>e=.returned (.bool (dR x))∧Bw w w':=by
 obtain ⟨p,cp,rfl,a1,a2,ha⟩:=h1;have HA:=aa ha;obtain ⟨N,hN⟩:=aG x.length;rw[hN] at a1;rw[hN];have hlc:=fK (n:=N) a2;have HN:=aa hN;have xJ:=aa l1;clear ha hN a1 a2 l1;by_cases h64:64<N
 ·have HF:=aa (EF (l:=x) (by rw[HN.o];exact h64))
  have aj1:(64:Int)<(N:Int):=by omega
  clear h64;go_enter Tryz.func120,Tryz.ntmps120;go_wp2_with fail;go_ret;exact ⟨aO HF.symm,aH⟩
 have aj1:¬(64:Int)<(N:Int):=by omega
 have H64:=aa h64;clear h64;go_enter Tryz.func120,Tryz.ntmps120;go_wp2_with fail;go_loopw [10,3,4] (fun i _ _ wr=>∃k:Nat,k≤N∧i=.int .i64 k∧(∀(j:Nat) a,j<k→x[j]?=some a→cI a=true)∧(∀(j:Nat) a b,j+1<k→x[j]?=some a→x[j+1]?=some b→a.id<b.id)∧Bw w wr) (fun i _ _ _=>N-(intOf i).toNat)
 case atStart=>exact ⟨0,dQ,rfl,fun j a hj=>by omega,fun j a b hj=>by omega,aH⟩
 case round=>
  obtain ⟨k,hk,rfl,hall,Rb,hb⟩:=hrel;have ez:=aa hall;have XU:=aa Rb;have HB:=aa hb;clear hall hb Rb;by_cases hlt:k<N
  case neg=>
   obtain rfl:k=N:=by omega
   have HF:=aa (show dR x=true by
    rw[CP (fun j a h=>ez j a (by have:=(List.getElem?_eq_some_iff.1 h).1;have:=HN.o;omega) h) (fun j a b ha hb=>XU j a b (by have:=(List.getElem?_eq_some_iff.1 hb).1;have:=HN.o;omega) ha hb),HN.o,decide_eq_true_eq];have:=H64.o;omega)
   go_wp2_with fail;go_ret;exact ⟨aO HF.symm,HB⟩
  have fO:(k:Int)<(N:Int):=by omega
  obtain ⟨s,hs⟩:=fy (l:=x) (k:=k) (by rw[HN.o];omega);obtain ⟨i1,i2,g,o,a,b,c,rfl,e0,e1,e2,e3,e4,e5⟩:=HA.o k s hs;obtain ⟨pa,na,ca,pb,nb,cb,pc,nc,cc,rfl,rfl,rfl⟩:=bc e5;have HV:=aa (show V5 g (o+k*5) s.id s.size (.slice pa na ca) (.slice pb nb cb) (.slice pc nc cc) wr from V5.below ⟨e0,e1,e2,e3,e4⟩ HB);have yR:=aa (And.intro i1 (And.intro i2 (e5.keep (af HB))));have HS:=aa hs;have HM:=aa (xJ.o s (List.mem_of_getElem? hs));clear hs e0 e1 e2 e3 e4 e5 i1 i2;obtain ⟨SI,Za⟩:∃S,s.id=S:=⟨_,rfl⟩
  have vI:=aa Za;rw[Za] at HV;clear Za;obtain ⟨W1,hW1⟩:=aG (wr.alloc (.cells #[.int .i64 SI,.int .i64 s.size,.slice pa na ca,.slice pb nb cb,.slice pc nc cc] 75));have hb1:Bw wr W1:=by rw[← hW1];exact aq
  have aU:=aa (show pU wr.heap.size (.int .i64 SI) (.int .i64 s.size) (.slice pa na ca) (.slice pb nb cb) (.slice pc nc cc) W1 by rw[← hW1];exact ⟨by simp,by simp,by simp,by simp,by simp⟩);have aZ:=aa hb1;have jr:=aV HB hb1;have ed:=aa hW1;clear hW1 hb1;obtain ⟨r0,r1,r2,r3,r4⟩:=HV.o;have X1:(k=0∨∃m t,k=m+1∧x[m]?=some t∧t.id<SI)∨(∃m t,k=m+1∧x[m]?=some t∧¬t.id<SI):=by
   rcases Nat.eq_zero_or_pos k with h0|h0
   ·exact .inl (.inl h0)
   ·obtain ⟨t,ht⟩:=fy (l:=x) (k:=k-1) (by rw[HN.o];omega)
    by_cases h:t.id<SI
    ·exact .inl (.inr ⟨k-1,t,by omega,ht,h⟩)
    ·exact .inr ⟨k-1,t,by omega,ht,h⟩
  have Zb:=aa X1;clear X1;go_upto_region 6 with fail;rw[ed.o];clear r0 r1 r2 r3 r4;obtain ⟨x0,x1,x2,x3,x4⟩:=aU.o;have hlx:=World.block_lt_of_cell? _ _ x0;rcases Zb.o with fp|⟨m,t,hm,ht,hno⟩
  case inr=>
   have HF:=aa (qG ht (show x[m+1]?=some s by rw[← hm];exact HS) (by rw[vI.o];exact hno));obtain ⟨_,_,g',o',_,_,_,Mo,f0,_⟩:=HA.o m t ht;cases Mo;have t0:=ae aZ (ae HB f0);have e5:IntKind.i64.wrap ((k:Int)-1)=(m:Int):=by rw[IntKind.wrap_i64];omega
   have e6:(m:Int)<(N:Int):=(by omega);have hg3:decide (0<k)=true:=decide_eq_true (by omega);have XP:SI≤t.id:=by omega
   clear hm ht f0 hno;go_quiet (fail);go_wp2_with fail;go_ret;exact ⟨aO HF.symm,ay jr _⟩
  have HGD:=aa fp;clear fp;go_cut [27] from 15 to 26 (fun v wx=>v=.bool false∧∃q,wx=W1.drewN q)
  case first=>
   rcases HGD.o with h0|⟨m,t,hm,ht,jh⟩
   ·subst h0
    have hg3:decide (0<0)=false:=rfl;go_quiet (fail);go_wp2_with fail;go_meet
    case rel=>exact ⟨rfl,_,rfl⟩
   ·obtain ⟨_,_,g',o',_,_,_,Mo,f0,_⟩:=HA.o m t ht
    cases Mo;have t0:=ae aZ (ae HB f0);have e5:IntKind.i64.wrap ((k:Int)-1)=(m:Int):=by rw[IntKind.wrap_i64];omega
    have e6:(m:Int)<(N:Int):=(by omega);have hg3:decide (0<k)=true:=decide_eq_true (by omega);have XP:decide (SI≤t.id)=false:=decide_eq_false (by omega);clear hm ht f0 jh;go_quiet (fail);go_wp2_with fail;go_meet
    case rel=>exact ⟨rfl,_,rfl⟩
  case rest=>
   obtain ⟨rfl,q,rfl⟩:=hcut;have HXQ:=aa (aU.below (ay aH q));have vY:=aa (ay jr q);have adw:=aa (ay aZ q);clear x0 x1 x2 x3 x4 hlx;obtain ⟨x0,x1,x2,x3,x4⟩:=HXQ.o;have hlx:=World.block_lt_of_cell? _ _ x0;obtain ⟨WQ,hWQ⟩:∃W,W1.drewN q=W:=⟨_,rfl⟩
   rw[hWQ] at HXQ vY adw x0 x1 x2 x3 x4 hlx ⊢;clear hWQ;go_wp2_with fail;refine (NQ s _ _ ⟨_,_,_,by rw[vI.o],yR.1,yR.2.1,yR.2.2.keep (af adw)⟩ HM).mono ?_;rintro e w3 ⟨rfl,hb⟩;have dG:=aV vY hb;clear hb x0 x1 x2 x3 x4 hlx;obtain ⟨bb,jf⟩:=aG (cI s);rw[jf];have uI:=aa jf;clear jf;cases bb with
   |false=>have HF:=aa (qF HS uI);go_wp2_with fail;go_ret;exact ⟨aO HF.symm,dG⟩
   |true=>
    go_wp2_with fail;go_roundw
    case rel=>
     refine ⟨k+1,by omega,by go_num,fun j a' hj jg=>?_,fun j a' b' hj jg B1=>?_,dG.o⟩
     ·by_cases e:j=k
      ·subst e;rw[HS.o] at jg;cases jg;exact uI.o
      ·exact ez j a' (by omega) jg
     ·by_cases e:j+1=k
      ·rcases HGD.o with h0|⟨m,t,hm,ht,jh⟩
       ·omega
       ·obtain rfl:j=m:=by omega
        rw[ht] at jg;rw[e,HS.o] at B1;cases jg;cases B1;rw[vI.o];exact jh
      ·exact XU j a' b' (by omega) jg B1
    case measure=>simp[intOf];omega
theorem alloc_old {W:World} {o x:Obj} {k:Nat} (h:W.heap[k]?=some x):(W.alloc o).heap[k]?=some x:=((World.grownBy_alloc W o none).block k (Array.getElem?_eq_some_iff.1 h).1 (by simp)).trans h
theorem NS {W:World} {b:Nat} {T:TypeId} {u0 u1 u2 u3 u4:Value} (h:W.heap[b]?=some (.cells #[u0,u1,u2,u3,u4] T (0,0))) :
 W.cell? ⟨b,0,none⟩=some u0∧W.cell? ⟨b,1,none⟩=some u1∧W.cell? ⟨b,2,none⟩=some u2∧W.cell? ⟨b,3,none⟩=some u3∧W.cell? ⟨b,4,none⟩=some u4:=by
 simp[World.cell?,h]
theorem NT {W:World} {b:Nat} {c:Array Value} {T:TypeId} (h:W.heap[b]?=some (.cells c T (0,0))) (j:Nat):W.frozen? ⟨b,j,none⟩=false:=by simp[World.frozen?,h]
theorem dU {R i:Nat} (h:i<R):R-(intOf (.int .i64 ((i:Int)+1))).toNat<R-(intOf (.int .i64 (i:Int))).toNat:=by simp only[intOf];omega
theorem nj {w W W':World} {B:Nat} (h:Bw w W) (hb:Below B W W') (hB:w.heap.size≤B):Bw w W':=h.trans (hb.mono hB)
theorem jE {B:Nat} {W0 A C:World} {row:Option Nat} (h:Below B W0 A) (hs:B≤A.heap.size) (hg:A.grownBy C row) (hr:∀b,b<B→some b≠row):Below B W0 C:=
 ⟨hg.os.trans h.os,hg.tape.trans h.tape,hg.output.trans h.output,Nat.le_trans h.size hg.size,fun k hk=>(hg.block k (by omega) (hr k hk)).trans (h.block k hk)⟩
theorem gX {W W':World} {B D:Nat} (h:Below D W W') (hD:B≤D):Below B W W':=⟨h.os,h.tape,h.output,h.size,fun k hk=>h.block k (Nat.lt_of_lt_of_le hk hD)⟩
theorem Kr {d:dy} {S:Int} (h:cI d=true) (hS:d.size=S):jV d.map 0 S=aB d.map:=by unfold cI at h;simp only[Bool.and_eq_true,List.all_eq_true] at h;obtain ⟨⟨_,h2⟩,h3⟩:=h;unfold jV uK;rw[if_pos h2,List.filter_eq_self];intro x hx;have:=h3 x hx;unfold dH at this;simp only[Bool.and_eq_true,decide_eq_true_eq] at this;unfold inB;rw[← hS,decide_eq_true (show 0≤x.1 by omega),decide_eq_true (show x.1<d.size by omega)];rfl
def RF (w:World) (b:Nat):Prop:=∃c t,w.heap[b]?=some (.cells c t (0,0))
def aj2 (W:World) (q:Nat):Prop:=∃c,W.heap[q]?=some (.cells c 3 (0,0))
def Zc (B:Nat) (W:World):Nat→Prop:=fun q=>B≤q∧aj2 W q
def vZ (B:Nat) (W:World):Nat→Prop:=fun q=>B≤q∧RF W q
theorem oY {w W:World} {q:Nat} (h:RF w q) (hb:Bw w W):RF W q:=by obtain ⟨c,t,hc⟩:=h;exact ⟨c,t,(hb.block q (Array.getElem?_eq_some_iff.1 hc).1).trans hc⟩
theorem zW {W W':World} {B B' b:Nat} (hg:W.grownBy W' (some b)) (hb:b<B) (hB:B'≤B):dJ (mask (vZ B W) W) (mask (vZ B' W') W'):=bI fun a v hf hv=>by
 have hne:some a.block≠some b:=fun e=>by injection e with e;have:=hf.1;omega
 refine ⟨⟨by have:=hf.1;omega,?_⟩,hg.cell hv hne⟩;obtain ⟨c,t,hc⟩:=hf.2;exact ⟨c,t,(hg.block a.block (Array.getElem?_eq_some_iff.1 hc).1 hne).trans hc⟩
theorem eP {w W:World} {B:Nat} (h:Below B w W) (j:Nat) (u:Value):Below B w (W.setCell ⟨B,j,none⟩ u):=
 have hg:=aw W B j u
 ⟨hg.os.trans h.os,hg.tape.trans h.tape,hg.output.trans h.output,Nat.le_trans h.size hg.size,fun k hk=>(Below.heap_setCell _ _ _ k (fun e=>by simp only at e;omega)).trans (h.block k hk)⟩
def ox (B:Nat) (v:Value) (W:World):Nat→Prop:=fun b=>vZ B W b∧some b≠v.ownBlock
def eD (u v:Value):Prop:=u.ownBlock=none∨u.ownBlock≠v.ownBlock
def zX (W w2:World) (v v':Value):Prop:=∀(B' e' k':Nat) (u:Value) (m:Nat) (ys:List Value),W.ownsRow B' e' k' u m ys→eD u v→w2.ownsRow B' e' k' u m ys∧eD u v'∧eD v' u
theorem rS {W W1 w2:World} {v v':Value} (ha:∀(B' e' k':Nat) (u:Value) (m:Nat) (ys:List Value),W.ownsRow B' e' k' u m ys→W1.ownsRow B' e' k' u m ys) (hg:W1.grownBy w2 v.ownBlock) (hb:v'.ownBlock=v.ownBlock∨v'.ownBlock=some W1.heap.size):zX W w2 v v':=by
 intro B' e' k' u m ys h hap;have h1:=ha B' e' k' u m ys h;have h2:u.ownBlock=none∨u.ownBlock≠v'.ownBlock:=by
  rcases hap with hap|hap
  ·exact .inl hap
  ·rcases hb with hb|hb
   ·exact .inr (by rw[hb];exact hap)
   ·refine .inr fun e=>?_
    rw[hb] at e;have:=(h1.lt _ e).2;omega
 refine ⟨h1.kept hg hap,h2,?_⟩;rcases h2 with h2|h2
 ·rcases hb':v'.ownBlock with _|b
  ·exact .inl hb'
  ·exact .inr (by rw[hb',h2];simp)
 ·exact .inr fun e=>h2 e.symm
theorem qJ {B:Nat} {W:World} {v:Value} {l:List Int} (hl:∀x∈l,aP x) (h:W.ownsRow B 3 1 v l.length (bB l)):fD (mask (Zc B W) W) v l:=by
 rcases aK h with ⟨hv,hn,_⟩|⟨g,cap,hv⟩
 ·exact ⟨none,0,by rw[hv,hn],by omega,by unfold maxLen;omega,fun i x hx=>by rw[List.eq_nil_of_length_eq_zero hn] at hx;simp at hx⟩
 ·subst hv
  obtain ⟨cur,hc,hb,h3,h4,_⟩:=bp h;refine ⟨_,cap,rfl,h3,h4,fun i x hx=>⟨hl x (List.mem_of_getElem? hx),g,0,rfl,ar.2 ⟨⟨hb,cur,hc⟩,?_⟩⟩⟩;have hi:=(List.getElem?_eq_some_iff.1 hx).1;have:=bJ h i (by unfold bB;rw[List.length_map];exact hi);rw[Nat.zero_add,this];unfold bB;rw[List.getElem_map];obtain ⟨_,rfl⟩:=List.getElem?_eq_some_iff.1 hx;rfl
theorem jF {w:World} {B:Nat} {e:TypeId} {k n:Nat} {v:Value} {xs:List Value} (h:w.ownsRow B e k v n xs):∃p m c,v=.slice p m c:=by
 rcases aK h with ⟨h1,_⟩|⟨g,cap,h1⟩
 ·exact ⟨_,_,_,h1⟩
 ·exact ⟨_,_,_,h1⟩
theorem RG {w:World} {F:Nat→Prop} {g o:Nat} {l:List ag} (h:∀j t,l[j]?=some t→qx (mask F w) (some ⟨g,o,none⟩) j t) :
 ∃xs:List Value,iN w (some ⟨g,o,none⟩) l.length 3 xs∧∀j t,l[j]?=some t→∃x y z,xs[j*3]?=some x∧xs[j*3+1]?=some y∧xs[j*3+2]?=some z∧bw (mask F w) t x y z:=by
 have hcell:∀i,i<l.length*3→∃u,w.cell? ⟨g,o+i,none⟩=some u∧u.oneCell'=true:=fun i hi=>by
  obtain ⟨t,ht⟩:=fy (l:=l) (k:=i/3) (by omega);obtain ⟨g',o',x,y,z,e,e1,e2,e3,e4⟩:=h (i/3) t ht;injection e with e;injection e with e5 e6;subst e5 e6;obtain ⟨pu,nu,cu,pv,nv,cv,pw,nw,cw,rfl,rfl,rfl⟩:=bc e4;have hm:i%3=0∨i%3=1∨i%3=2:=by omega
  rcases hm with hm|hm|hm
  ·refine ⟨.slice pu nu cu,?_,rfl⟩;rw[show o+i=o+i/3*3 by omega];exact (ar.1 e1).2
  ·refine ⟨.slice pv nv cv,?_,rfl⟩;rw[show o+i=o+i/3*3+1 by omega];exact (ar.1 e2).2
  ·refine ⟨.slice pw nw cw,?_,rfl⟩;rw[show o+i=o+i/3*3+2 by omega];exact (ar.1 e3).2
 refine ⟨(List.range (l.length*3)).map fun i=>(w.cell? ⟨g,o+i,none⟩).getD uu,⟨by simp,fun h=>(by cases h),fun u hu=>?_,fun a ha j u hu=>?_⟩,fun j t ht=>?_⟩
 ·rw[List.mem_map] at hu
  obtain ⟨i,hi,rfl⟩:=hu;obtain ⟨u,h1,h2⟩:=hcell i (List.mem_range.1 hi);rw[h1];exact h2
 ·injection ha with ha;subst ha
  rw[List.getElem?_map] at hu;by_cases hj:j<l.length*3
  ·rw[List.getElem?_range hj] at hu
   obtain ⟨u',h1,h2⟩:=hcell j hj;simp only[Option.map_some,h1,Option.getD_some,Option.some.injEq] at hu;subst hu;rw[nI];exact h1
  ·rw[List.getElem?_eq_none (by simpa using hj)] at hu;cases hu
 ·obtain ⟨g',o',x,y,z,e,e1,e2,e3,e4⟩:=h j t ht
  injection e with e;injection e with e5 e6;subst e5 e6;have hj:=(List.getElem?_eq_some_iff.1 ht).1;refine ⟨x,y,z,?_,?_,?_,e4⟩
  ·rw[List.getElem?_map,List.getElem?_range (by omega),Option.map_some,(ar.1 e1).2];rfl
  ·rw[List.getElem?_map,List.getElem?_range (by omega),Option.map_some,show o+(j*3+1)=o+j*3+1 by omega,(ar.1 e2).2];rfl
  ·rw[List.getElem?_map,List.getElem?_range (by omega),Option.map_some,show o+(j*3+2)=o+j*3+2 by omega,(ar.1 e3).2];rfl
structure ky (W w2:World) (B n:Nat) (E:TypeId) (k:Nat) (v:Value) (xs news:List Value) (g cap:Nat):Prop where
 row:w2.ownsRow B E k (.slice (some ⟨g,0,none⟩) (n+1) cap) (n+1) (xs++news)
 below:Below B W w2
 others:zX W w2 v (.slice (some ⟨g,0,none⟩) (n+1) cap)
 cells:∀a x,W.cell? a=some x→some a.block≠v.ownBlock→w2.cell? a=some x
 grown:W.grownBy w2 v.ownBlock
 at_:(Value.slice (some ⟨g,0,none⟩) (n+1) cap).ownBlock=v.ownBlock∨W.heap.size≤g
theorem iA {W w2:World} {o:Obj} {row:Option Nat} (h:(W.alloc o).grownBy w2 row):W.grownBy w2 row:=aX (World.grownBy_alloc W o row) h
theorem eY {P:Program} (T E:TypeId) (i0:TypeInfo) (z:Value) (k bytes:Nat) (hT:P.underlying T=some (.slice E)) (hi:P.info? E=some i0) (hz:i0.zero=some z) (hs:i0.size=k) (hb:i0.bytes=bytes) (hzs:z.cells.size=k) (hk:0<k) (hby:bytes≤1000)
 (W:World) (B n:Nat) (v:Value) (xs news:List Value) (hown:W.ownsRow B E k v n xs) (hl:news.length=k) (h1:∀u∈news,u.oneCell'=true) (hn:n≤100000000) (hB:B≤W.heap.size) :
 ∃g cap w2,(Builtin.append_ #[T,T] T #[v,.slice (some ⟨W.heap.size,0,none⟩) 1 1]).run P (W.alloc (.cells news.toArray E))=.ok (.slice (some ⟨g,0,none⟩) (n+1) cap) w2∧ky W w2 B n E k v xs news g cap:=by
 obtain ⟨v',w',e1,e2,e3,_,e5⟩:=run_append_own_at (P:=P) (W.alloc (.cells news.toArray E)) B T T E i0 z k bytes hT hi hz hs hb hzs hk v n xs (hown.alloc _) ⟨W.heap.size,0,none⟩ 1 1 news (by rw[hl,Nat.one_mul]) (by
  intro j u hu;rw[jS,World.cell?_alloc_at _ _ _ _ rfl]
  simpa using hu) h1 (by unfold maxLen;omega) (by
  have:(n+1)*bytes≤(n+1)*1000:=Nat.mul_le_mul_left _ hby;omega) (by simp;omega)
 obtain ⟨g,cap,rfl⟩:=ownsRow_succ e2;refine ⟨g,cap,w',e1,e2,l5 aH hB hown e3,rS (fun B' e' k' u m ys h=>h.alloc _) e3 e5,fun a x hx hne=>e3.cell (ae (aq) hx) hne,iA e3,?_⟩;rcases e5 with e|e
 ·exact .inl e
 ·refine .inr ?_
  have:g=(W.alloc (.cells news.toArray E)).heap.size:=by simpa [Value.ownBlock] using e
  rw[this];simp
theorem aM {w w':World} {B n k:Nat} {e:TypeId} {v:Value} {xs:List Value} (h:w.ownsRow B e k v n xs) (hb:Bw w w'):w'.ownsRow B e k v n xs:=by
 refine ⟨h.1,?_⟩;rcases h.2 with h1|⟨g,cap,cur,h1,h2,h3,h4⟩
 ·exact .inl h1
 ·exact .inr ⟨g,cap,cur,h1,h2,(hb.block g (Array.getElem?_eq_some_iff.1 h3).1).trans h3,h4⟩
theorem RH (w:World) (B n k:Nat) (e:TypeId) (cur:Array Value) (hb:B≤w.heap.size) (hn:n≤maxLen) (hs:cur.size=n*k):(w.alloc (.cells cur e)).ownsRow B e k (.slice (some ⟨w.heap.size,0,none⟩) n n) n cur.toList:=
 ⟨by simpa using hs,.inr ⟨w.heap.size,n,cur,rfl,hb,World.alloc_heap_new w _,aT,hn,hs,by rw[List.take_of_length_le (by simpa using Nat.le_of_eq hs)]⟩⟩
def bn {α:Type} (f:α→List Value) (l:List α):List Value:=(l.map f).flatten
theorem fF {α:Type} (f:α→List Value) (l:List α) (x:α):bn f l++f x=bn f (l++[x]):=by unfold bn;rw[List.map_append,List.flatten_append];simp
theorem lV {α:Type} {f:α→List Value} {k:Nat} (hf:∀x,(f x).length=k):∀l:List α,(bn f l).length=l.length*k
 |[]=>by simp[bn]
 |a::l=>by have h:=lV hf l;unfold bn at *;rw[List.map_cons,List.flatten_cons,List.length_append,h,hf,List.length_cons,Nat.add_mul];omega
theorem eQ {α:Type} {f:α→List Value} {k:Nat} (hf:∀x,(f x).length=k):∀(l:List α) (i:Nat) (x:α) (j:Nat) (u:Value),l[i]?=some x→(f x)[j]?=some u→(bn f l)[i*k+j]?=some u
 |[],i,x,j,u,h,_=>by simp at h
 |a::l,i,x,j,u,h,hj=>by
  have e:bn f (a::l)=f a++bn f l:=by unfold bn;rw[List.map_cons,List.flatten_cons]
  rw[e];cases i with
  |zero=>simp only[List.getElem?_cons_zero,Option.some.injEq] at h;subst h;have Ez:=(List.getElem?_eq_some_iff.1 hj).1;rw[Nat.zero_mul,Nat.zero_add,List.getElem?_append_left Ez];exact hj
  |succ i=>rw[List.getElem?_cons_succ] at h;rw[List.getElem?_append_right (by rw[hf,Nat.add_mul];omega),hf,show (i+1)*k+j-k=i*k+j by rw[Nat.add_mul];omega];exact eQ hf l i x j u h hj
def dx {α:Type} (w:World) (v:Value) (k:Nat) (f:α→List Value) (l:List α):Prop:=
 ∃p c,v=.slice p l.length c∧l.length≤c∧c≤maxLen∧(p=none→c=0)∧∀i x,l[i]?=some x→∃g o,p=some ⟨g,o,none⟩∧∀j u,(f x)[j]?=some u→w.cell? ⟨g,o+i*k+j,none⟩=some u
theorem dx.keep {α:Type} {w w':World} {v:Value} {k:Nat} {f:α→List Value} {l:List α} (h:dx w v k f l) (hk:dJ w w'):dx w' v k f l:=by obtain ⟨p,c,h1,h2,h3,h5,h4⟩:=h;refine ⟨p,c,h1,h2,h3,h5,fun i x hx=>?_⟩;obtain ⟨g,o,h5,h6⟩:=h4 i x hx;exact ⟨g,o,h5,fun j u hj=>hk _ _ (h6 j u hj)⟩
theorem lC {α:Type} (w:World) (k:Nat) (f:α→List Value):dx w (.slice none 0 0) k f []:=⟨none,0,rfl,aT,by unfold maxLen;omega,fun _=>rfl,fun i x hx=>by simp at hx⟩
theorem kz {α:Type} {w:World} {B:Nat} {e:TypeId} {v:Value} {n k:Nat} {f:α→List Value} {l:List α} (hf:∀x,(f x).length=k) (hn:l.length=n) (h:w.ownsRow B e k v n (bn f l)):dx w v k f l:=by
 subst hn;rcases aK h with ⟨hv,hn,_⟩|⟨g,cap,hv⟩
 ·exact ⟨none,0,by rw[hv,hn],by omega,by unfold maxLen;omega,fun _=>rfl,fun i x hx=>by rw[List.eq_nil_of_length_eq_zero hn] at hx;simp at hx⟩
 ·subst hv
  obtain ⟨_,_,_,h3,h4,_⟩:=bp h;refine ⟨_,cap,rfl,h3,h4,(fun e=>by cases e),fun i x hx=>⟨g,0,rfl,fun j u hj=>?_⟩⟩;obtain ⟨h6,h7⟩:=List.getElem?_eq_some_iff.1 (eQ hf l i x j u hx hj);rw[Nat.zero_add,bJ h _ h6,h7]
theorem dx.src {α:Type} {w:World} {v:Value} {k:Nat} {f:α→List Value} {l:List α} (hf:∀x,(f x).length=k) (h1:∀x,∀u∈f x,u.oneCell'=true) (hk:0<k) (h:dx w v k f l):∃p c,v=.slice p l.length c∧l.length≤c∧c≤maxLen∧(p=none→c=0)∧iN w p l.length k (bn f l):=by
 obtain ⟨p,c,e,hc1,hc2,h3,h4⟩:=h;refine ⟨p,c,e,hc1,hc2,h3,lV hf l,fun hp=>by have:=h3 hp;omega,?_,?_⟩
 ·intro u hu
  unfold bn at hu;obtain ⟨q,hq,hu⟩:=List.mem_flatten.1 hu;obtain ⟨x,_,rfl⟩:=List.mem_map.1 hq;exact h1 x u hu
 ·intro a ha j u hj
  have Ur:=(List.getElem?_eq_some_iff.1 hj).1;rw[lV hf] at Ur;have hi:j/k<l.length:=Nat.div_lt_of_lt_mul (by rw[Nat.mul_comm];exact Ur);obtain ⟨g,o,e,hc⟩:=h4 (j/k) _ (List.getElem?_eq_getElem hi);have hr:j%k<(f l[j/k]).length:=by rw[hf];exact Nat.mod_lt _ hk
  have hg:=eQ hf l (j/k) _ (j%k) _ (List.getElem?_eq_getElem hi) (List.getElem?_eq_getElem hr);have hjj:j/k*k+j%k=j:=Nat.div_add_mod' j k;rw[hjj,hj] at hg;rw[ha] at e;cases e;rw[nI,← hjj,← Nat.add_assoc];exact hc _ _ (by rw[hg];exact List.getElem?_eq_getElem hr)
def bS (l:List Bool):List Value:=l.map .bool
def dA (w:World) (v:Value) (l:List Bool):Prop:=∃p c,v=.slice p l.length c∧l.length≤c∧c≤maxLen∧(p=none→c=0)∧∀i x,l[i]?=some x→∃g o,p=some ⟨g,o,none⟩∧w.cell? ⟨g,o+i,none⟩=some (.bool x)
theorem dA.keep {w w':World} {v:Value} {l:List Bool} (h:dA w v l) (hk:dJ w w'):dA w' v l:=by obtain ⟨p,c,h1,h2,h3,h5,h4⟩:=h;refine ⟨p,c,h1,h2,h3,h5,fun i x hx=>?_⟩;obtain ⟨g,o,h5,h6⟩:=h4 i x hx;exact ⟨g,o,h5,hk _ _ h6⟩
theorem iJ (w:World):dA w (.slice none 0 0) []:=⟨none,0,rfl,aT,by unfold maxLen;omega,fun _=>rfl,fun i x hx=>by simp at hx⟩
theorem eI {w:World} {B:Nat} {e:TypeId} {v:Value} {n:Nat} {l:List Bool} (hn:l.length=n) (h:w.ownsRow B e 1 v n (bS l)):dA w v l:=by
 subst hn;rcases aK h with ⟨hv,hn,_⟩|⟨g,cap,hv⟩
 ·exact ⟨none,0,by rw[hv,hn],by omega,by unfold maxLen;omega,fun _=>rfl,fun i x hx=>by rw[List.eq_nil_of_length_eq_zero hn] at hx;simp at hx⟩
 ·subst hv
  obtain ⟨_,_,_,h3,h4,_⟩:=bp h;refine ⟨_,cap,rfl,h3,h4,(fun e=>by cases e),fun i x hx=>⟨g,0,rfl,?_⟩⟩;have hi:=(List.getElem?_eq_some_iff.1 hx).1;have:=bJ h i (by unfold bS;rw[List.length_map];exact hi);rw[Nat.zero_add,this];unfold bS;rw[List.getElem_map];obtain ⟨_,rfl⟩:=List.getElem?_eq_some_iff.1 hx;rfl
theorem dA.src {w:World} {v:Value} {l:List Bool} (h:dA w v l):∃p c,v=.slice p l.length c∧(p=none→c=0)∧iN w p l.length 1 (bS l):=by
 obtain ⟨p,c,e,h1,h2,h3,h4⟩:=h;refine ⟨p,c,e,h3,by unfold bS;rw[List.length_map,Nat.mul_one],fun hp=>by have:=h3 hp;omega,?_,?_⟩
 ·intro u hu
  unfold bS at hu;obtain ⟨x,_,rfl⟩:=List.mem_map.1 hu;rfl
 ·intro a ha j u hj
  unfold bS at hj;rw[List.getElem?_map] at hj;cases hx:l[j]? with
  |none=>rw[hx] at hj;cases hj
  |some x=>rw[hx] at hj;obtain ⟨g,o,e,hc⟩:=h4 j x hx;rw[ha] at e;cases e;rw[nI];simp only[Option.map_some,Option.some.injEq] at hj;rw[← hj];exact hc
theorem qK:(Tryz.prog.info? 4).map (fun i=>(i.zero,i.size,i.bytes))=some (some (.bool false),1,1):=by kernel_rfl
theorem qL (W:World) (B n:Nat) (v:Value) (l:List Bool) (x:Bool) (hown:W.ownsRow B 4 1 v n (bS l)) (hn:n≤100000000) (hB:B≤W.heap.size) :
 ∃g cap w2,(Builtin.append_ #[24,24] 24 #[v,.slice (some ⟨W.heap.size,0,none⟩) 1 1]).run Tryz.prog (W.alloc (.cells #[.bool x] 4))=.ok (.slice (some ⟨g,0,none⟩) (n+1) cap) w2∧ky W w2 B n 4 1 v (bS l) [.bool x] g cap:=by
 obtain ⟨i0,iP,hz0,hz1,hz2⟩:=info_parts qK;exact eY 24 4 i0 _ 1 1 Tryz.underlying24 iP hz0 hz1 hz2 rfl (by decide) (by decide) W B n v (bS l) [.bool x] hown rfl (by intro u hu;simp only[List.mem_cons,List.not_mem_nil,or_false] at hu;subst hu;rfl) hn hB
theorem qM (l:List Bool) (x:Bool):bS l++[.bool x]=bS (l++[x]):=by unfold bS;rw[List.map_append];rfl
theorem au {P:Program} {fn:Func} {R:Ending→World→Prop} {tmps:Array Value} {w:World} {v:Value} (hR:R (.returned v) w) (hr:(results fn tmps).run P w=.ok v w):bodyPost P fn R .ret {tmps:=tmps,defers:=[]} w:=bodyPost_ret hr rfl hR
theorem uM {j n:Nat} (h:j≤n) (h2:n≤1000000):wrap64 ((j:Int)+1)=(j:Int)+1:=by unfold wrap64;omega
theorem lD {W:World} {B j:Nat} {v u:Value} {a:Addr} (h:W.cell? a=some u) (hne:a.block≠B):(W.setCell ⟨B,j,none⟩ v).cell? a=some u:=(aw W B j v).cell h (fun e=>hne (by injection e))
def wh (w:World) (l:List az) (e:Ending) (w':World):Prop:=∃t a b c,e=.returned (.agg #[a,b,c])∧Grown l t∧bw (mask (vZ w.heap.size w') w') t a b c∧Bw w w'
theorem xM {lo np hi g c:Nat} (h1:lo+np=hi) (h2:hi≤g) (h3:g≤c) (h4:1≤np):hi-lo=np∧lo≤hi∧hi≤c∧¬c=lo∧(lo:Int)≤(hi:Int)∧(hi:Int)≤(c:Int)∧¬(lo:Int)<0∧(0:Int)≤(lo:Int)∧(0:Int)≤(hi:Int):=by omega
abbrev aj:=Int×Int×Int×Bool
def U4 (g o:Nat) (a b c:Int) (d:Bool) (w:World):Prop:=w.cell? ⟨g,o,none⟩=some (.int .i64 a)∧w.cell? ⟨g,o+1,none⟩=some (.int .i64 b)∧w.cell? ⟨g,o+2,none⟩=some (.int .i64 c)∧w.cell? ⟨g,o+3,none⟩=some (.bool d)
theorem U4.keep {g o:Nat} {a b c:Int} {d:Bool} {w w':World} (h:U4 g o a b c d w) (hk:dJ w w'):U4 g o a b c d w':=⟨hk _ _ h.1,hk _ _ h.2.1,hk _ _ h.2.2.1,hk _ _ h.2.2.2⟩
def dB (w:World) (v:Value) (l:List aj):Prop:=
 ∃p c,v=.slice p l.length c∧l.length≤c∧c≤maxLen∧∀i x,l[i]?=some x→∃g o,p=some ⟨g,o,none⟩∧U4 g (o+i*4) x.1 x.2.1 x.2.2.1 x.2.2.2 w
theorem dB.keep {w w':World} {v:Value} {l:List aj} (h:dB w v l) (hk:dJ w w'):dB w' v l:=by obtain ⟨p,c,h1,h2,h3,h4⟩:=h;refine ⟨p,c,h1,h2,h3,fun i x hx=>?_⟩;obtain ⟨g,o,e1,e2⟩:=h4 i x hx;exact ⟨g,o,e1,e2.keep hk⟩
def dI (w:World) (v:Value) (l:List (List aj)):Prop:=
 ∃p c,v=.slice p l.length c∧l.length≤c∧c≤maxLen∧∀i x,l[i]?=some x→∃g o u,p=some ⟨g,o,none⟩∧w.cell? ⟨g,o+i,none⟩=some u∧dB w u x
theorem dI.keep {w w':World} {v:Value} {l:List (List aj)} (h:dI w v l) (hk:dJ w w'):dI w' v l:=by obtain ⟨p,c,h1,h2,h3,h4⟩:=h;refine ⟨p,c,h1,h2,h3,fun i x hx=>?_⟩;obtain ⟨g,o,u,e1,e2,e3⟩:=h4 i x hx;exact ⟨g,o,u,e1,hk _ _ e2,e3.keep hk⟩
def fG (u:aj):Bool:=decide (1≤u.2.1∧u.2.1≤8∧0≤u.1∧u.1+u.2.1≤16∧0≤u.2.2.1∧u.2.2.1≤1000000∧(u.2.2.1=0→u.2.2.2=true))
def hP:Int→List aj→Bool
 |_,[]=>true
 |e,u::l=>fG u&&decide (e≤u.1)&&hP (u.1+u.2.1) l
def dD (l:List aj):Bool:=hP 0 l
def oy (a b:List aj):Bool:=decide (a=b)
theorem CY {l:List aj} {k:Nat} {u:aj} {e:Int} (h:l[k]?=some u):hP e (l.drop k)=(fG u&&decide (e≤u.1)&&hP (u.1+u.2.1) (l.drop (k+1))):=by obtain ⟨hk,hx⟩:=List.getElem?_eq_some_iff.1 h;rw[List.drop_eq_getElem_cons hk,hx];rfl
theorem GP {l:List aj} {k:Nat} {e:Int} (h:l.length≤k):hP e (l.drop k)=true:=by rw[List.drop_of_length_le h];rfl
theorem zZ {l:List aj} {k:Nat} {u:aj} {e:Int} (h:l[k]?=some u) (hb:¬(fG u=true∧e≤u.1)):hP e (l.drop k)=false:=by
 rw[CY h];rcases Bool.eq_false_or_eq_true (fG u) with h1|h1
 ·rw[h1];simp only[Bool.true_and,Bool.and_eq_false_iff,decide_eq_false_iff_not];left;intro h2;exact hb ⟨h1,h2⟩
 ·rw[h1];rfl
theorem EG {l:List aj} {k:Nat} {u:aj} {e:Int} (h:l[k]?=some u) (h1:fG u=true) (h2:e≤u.1):hP e (l.drop k)=hP (u.1+u.2.1) (l.drop (k+1)):=by rw[CY h,h1];simp[h2]
theorem r6 {F:Nat→Prop} {w W:World} {v:Value} (hb:Bw w W) (hv:∀k,v.ownBlock=some k→w.heap.size≤k):dJ (mask F w) (mask (fun b=>F b∧some b≠v.ownBlock) W):=bI fun a u hf hu=>by have hl:=World.block_lt_of_cell? _ _ hu;exact ⟨⟨hf,fun e=>by have:=hv _ e.symm;omega⟩,ae hb hu⟩
def dn (F:Nat→Prop) (w:World) (B:Nat) (v:Value) (l:List dy):Prop:=
 ∃xs:List (dy×(Value×Value×Value)),xs.map Prod.fst=l∧w.ownsRow B 75 5 v l.length (fV xs)∧∀x∈xs,aP x.1.id∧aP x.1.size∧bw (mask (fun b=>F b∧some b≠v.ownBlock) w) x.1.map x.2.1 x.2.2.1 x.2.2.2
theorem dn.at {F:Nat→Prop} {w:World} {B:Nat} {v:Value} {l:List dy} (h:dn F w B v l) (hF:∀q,B≤q→F q):eU (mask F w) v l:=by
 obtain ⟨xs,rfl,hown,hx⟩:=h;rw[List.length_map] at hown;rcases aK hown with ⟨hv,hn,_⟩|⟨g,cap,hv⟩
 ·exact ⟨none,0,by rw[hv,List.length_map,hn],by rw[List.length_map];omega,by unfold maxLen;omega,fun i x hx=>by rw[List.eq_nil_of_length_eq_zero hn] at hx;simp at hx⟩
 ·subst hv
  obtain ⟨_,_,_,h3,h4,_⟩:=bp hown;refine ⟨_,cap,by rw[List.length_map],by rw[List.length_map];exact h3,h4,fun i d hd=>?_⟩;rw[List.getElem?_map] at hd;cases vJ:xs[i]? with
  |none=>rw[vJ] at hd;simp at hd
  |some x=>
   rw[vJ] at hd;simp only[Option.map_some,Option.some.injEq] at hd;subst hd;obtain ⟨i1,i2,i3⟩:=hx x (List.mem_of_getElem? vJ);have hl:=nh xs;have hi:=(List.getElem?_eq_some_iff.1 vJ).1;have hc:∀j u,(qH x.1 x.2)[j]?=some u→(mask F w).cell? ⟨g,0+i*5+j,none⟩=some u:=fun j u hj=>by have h5:j<5:=(List.getElem?_eq_some_iff.1 hj).1;have h6:=lA xs i x vJ j u hj;obtain ⟨h7,h8⟩:=List.getElem?_eq_some_iff.1 h6;refine ar.2 ⟨hF _ (hown.lt g rfl).1,?_⟩;rw[Nat.zero_add,bJ hown (i*5+j) h7,h8]
   exact ⟨i1,i2,g,0,x.2.1,x.2.2.1,x.2.2.2,rfl,hc 0 _ rfl,hc 1 _ rfl,hc 2 _ rfl,hc 3 _ rfl,hc 4 _ rfl,i3.keep (bI fun a u hf hu=>⟨hf.1,hu⟩)⟩
theorem dn.below {F:Nat→Prop} {w w':World} {B:Nat} {v:Value} {l:List dy} (h:dn F w B v l) (hb:Bw w w'):dn F w' B v l:=by obtain ⟨xs,h1,hown,hx⟩:=h;refine ⟨xs,h1,kr hown hb,fun x zU=>?_⟩;obtain ⟨i1,i2,i3⟩:=hx x zU;exact ⟨i1,i2,i3.keep (bI fun a u hf hu=>⟨hf,ae hb hu⟩)⟩
theorem dn.nil {F:Nat→Prop} {w:World} {B:Nat} (hB:B≤w.heap.size):dn F (w.alloc (.cells #[] 75)) B (.slice (some ⟨w.heap.size,0,none⟩) 0 0) []:=by
 refine ⟨[],rfl,?_,fun x h=>by simp at h⟩;have:=World.ownsRow_made w #[] 0 (base:=B) (e:=75) (size:=5) hB (by unfold maxLen;omega) rfl
 simpa [fV] using this
theorem dn.none {F:Nat→Prop} {w:World} {B:Nat}:dn F w B (.slice none 0 0) []:=⟨[],rfl,World.ownsRow_nil w B _ _,fun x h=>by simp at h⟩
theorem nC {F:Nat→Prop} (W:World) (B n:Nat) (v:Value) (l:List dy) (d:dy) (a b c:Value) (hown:dn F W B v l) (hl:l.length=n) (hn:n≤1000000) (hB:B≤W.heap.size) (h1:aP d.id) (h2:aP d.size) (h3:bw (mask (fun b=>F b∧some b≠v.ownBlock) W) d.map a b c) :
 ∃g cap w2,(Builtin.append_ #[27,27] 27 #[v,.slice (some ⟨W.heap.size,0,none⟩) 1 1]).run Tryz.prog (W.alloc (.cells #[.int .i64 d.id,.int .i64 d.size,a,b,c] 75))=.ok (.slice (some ⟨g,0,none⟩) (n+1) cap) w2 ∧
  dn F w2 B (.slice (some ⟨g,0,none⟩) (n+1) cap) (l++[d])∧Below B W w2:=by
 obtain ⟨xs,hx0,hown,hx⟩:=hown;obtain ⟨pa,na,ca,pb,nb,cb,pc,nc,cc,rfl,rfl,rfl⟩:=bc h3;rw[hl] at hown;obtain ⟨i0,iP,hz0,hz1,hz2⟩:=info_parts Rc;obtain ⟨v',w',r1,r2,r3,_,r5⟩:=run_append_own_at (P:=Tryz.prog) (W.alloc (.cells #[.int .i64 d.id,.int .i64 d.size,.slice pa na ca,.slice pb nb cb,.slice pc nc cc] 75)) B 27 27 75 i0 _ 5 88 Tryz.underlying27 iP hz0 hz1 hz2 rfl (by decide) v n _ (hown.alloc _) ⟨W.heap.size,0,none⟩ 1 1 [.int .i64 d.id,.int .i64 d.size,.slice pa na ca,.slice pb nb cb,.slice pc nc cc] rfl (by
  intro j u hu;rw[jS,World.cell?_alloc_at _ _ _ _ rfl];rcases j with _|_|_|_|_|j
  ·exact hu
  ·exact hu
  ·exact hu
  ·exact hu
  ·exact hu
  ·simp at hu) (by
  intro u hu;simp only[List.mem_cons,List.not_mem_nil,or_false] at hu;rcases hu with rfl|rfl|rfl|rfl|rfl <;> rfl) (by unfold maxLen;omega) (by omega) (by simp;omega)
 obtain ⟨g,cap,rfl⟩:=ownsRow_succ r2;have hk:dJ (mask (fun b=>F b∧some b≠v.ownBlock) W) (mask (fun b=>F b∧some b≠(Value.slice (some ⟨g,0,none⟩) (n+1) cap).ownBlock) w'):=bI fun a u hf hu=>by
  have hlt:=World.block_lt_of_cell? _ _ hu;refine ⟨⟨hf.1,fun e=>?_⟩,r3.cell (ae (aq) hu) hf.2⟩;rcases r5 with r5|r5
  ·rw[r5] at e;exact hf.2 e
  ·rw[r5] at e;injection e with e;simp at e;omega
 refine ⟨g,cap,w',r1,⟨xs++[(d,(.slice pa na ca,.slice pb nb cb,.slice pc nc cc))],by rw[List.map_append,hx0];rfl,?_,fun x zU=>?_⟩,l5 aH hB hown r3⟩
 ·rw[List.length_append,hl,uJ];exact r2
 ·rw[List.mem_append,List.mem_singleton] at zU
  rcases zU with zU|rfl
  ·obtain ⟨i1,i2,i3⟩:=hx x zU
   exact ⟨i1,i2,i3.keep hk⟩
  ·exact ⟨h1,h2,h3.keep hk⟩
theorem dn.block {F:Nat→Prop} {w:World} {B:Nat} {v:Value} {l:List dy} (h:dn F w B v l):∀k,v.ownBlock=some k→B≤k:=fun k hk=>by obtain ⟨xs,_,hown,_⟩:=h;exact (hown.lt k hk).1
theorem dn.mono {F:Nat→Prop} {w:World} {B B':Nat} {v:Value} {l:List dy} (h:dn F w B v l) (hb:B'≤B):dn F w B' v l:=by obtain ⟨xs,h1,hown,hx⟩:=h;exact ⟨xs,h1,bC hb hown,hx⟩
theorem dn.av {F:Nat→Prop} {w:World} {B:Nat} {v:Value} {l:List dy} (h:dn F w B v l):eU w v l:=by obtain ⟨xs,h1,hown,hx⟩:=h;exact EA.at ⟨xs,h1,hown,fun x hm=>⟨(hx x hm).1,(hx x hm).2.1,(hx x hm).2.2.keep (bI fun a u hf hu=>⟨hf.2,hu⟩)⟩⟩
theorem KW (x:List dy) (d:dy) (v1 v2:Value) (w:World) (F:Nat→Prop) (zi:eU (mask F w) v1 x) (zE:vK (mask F w) v2 d) (l1:bO x) (l2:dN d.map):Calls Tryz.prog 151 #[v1,v2] w fun e w'=>∃v',e=.returned v'∧dn F w' w.heap.size v' (fo x d)∧Bw w w':=by
 have h1:eU w v1 x:=zi.keep nO;obtain ⟨a,b,c,rfl,i1,i2,Yr⟩:=zE;have hn:bw w d.map a b c:=Yr.keep nO;obtain ⟨pa,na,ca,pb,nb,cb,pc,nc,cc,rfl,rfl,rfl⟩:=bc hn;have hb0:Bw w (w.alloc (.cells #[.int .i64 d.id,.int .i64 d.size,.slice pa na ca,.slice pb nb cb,.slice pc nc cc] 75)):=aq;have kI:=aa hb0;have yR:=aa hn;have zo:=aa Yr;have HI:=aa (And.intro i1 i2);have xJ:=aa l1;have nW:=aa l2;have QG:=aa h1;clear hn Yr i1 i2 l1 l2 hb0;obtain ⟨p,cp,rfl,a1,a2,ha⟩:=zi;clear h1;have HA:=aa ha;obtain ⟨N,hN⟩:=aG x.length;rw[hN] at a1 QG;rw[hN];have hlc:=fK (n:=N) a2;have HN:=aa hN;clear ha hN a1 a2;obtain ⟨Q,hQ⟩:=aG d.id;have EX:=aa hQ;rw[hQ] at kI ⊢;clear hQ;go_enter Tryz.func151,Tryz.ntmps151;go_wp2_with fail;refine (tD x _ _ (QG.keep (af kI)) xJ).mono ?_;rintro e w1 ⟨rfl,hb⟩;have aZ:=aV kI hb;have aU:=aa (show pU w.heap.size (.int .i64 Q) (.int .i64 d.size) (.slice pa na ca) (.slice pb nb cb) (.slice pc nc cc) w1 from pU.below ⟨by simp,by simp,by simp,by simp,by simp⟩ hb);clear hb;obtain ⟨q0,q1,q2,q3,q4⟩:=aU.o;have hlx:=World.block_lt_of_cell? _ _ q0;cases hm:dR x with
 |false=>have HF:=aa (show fo x d=[] by unfold fo;rw[hm,if_neg (by simp)]);clear hm;go_wp2_with fail;go_ret;exact ⟨_,rfl,by rw[HF.o];exact dn.none,aZ⟩
 |true=>
 have HM:=aa hm;have ajY:N≤64:=by rw[← HN.o];exact rQ hm
 clear hm;go_wp2_with fail;refine (mq d _ _ ⟨_,_,_,by rw[EX.o],HI.1,HI.2,yR.keep (af aZ)⟩ nW).mono ?_;rintro e w2 ⟨rfl,hb⟩;have bU:=aV aZ hb;have dY:=aa (aU.below hb);clear hb q0 q1 q2 q3 q4 hlx;obtain ⟨q0,q1,q2,q3,q4⟩:=dY.o;have hlx:=World.block_lt_of_cell? _ _ q0;cases hr:cI d with
 |false=>have HF:=aa (show fo x d=[] by unfold fo;rw[hr,if_neg (by simp)]);clear hr;go_wp2_with fail;go_ret;exact ⟨_,rfl,by rw[HF.o];exact dn.none,bU⟩
 |true=>
 have HW:=aa (show fo x d=if 64<(k8 x d false).length then [] else k8 x d false by unfold fo;rw[HM.o,hr,if_pos ⟨rfl,rfl⟩]);clear hr;go_wp2_with fail;go_loopw [5,6,7] (fun v lb i wr=>∃(k:Nat) (laid:Bool) (done:List dy) (vv:Value),vv=v∧k≤N∧i=.int .i64 k∧lb=.bool laid∧k8 x d false=done++k8 (x.drop k) d laid∧done.length≤N+1∧dn F wr (w.heap.size+1) v done∧pU w.heap.size (.int .i64 Q) (.int .i64 d.size) (.slice pa na ca) (.slice pb nb cb) (.slice pc nc cc) wr∧Bw w wr) (fun _ _ i _=>N-(intOf i).toNat)
 case atStart=>exact ⟨0,false,[],_,rfl,dQ,rfl,rfl,by rw[List.drop_zero];rfl,by simp,dn.nil hlx,dY.below (aq),ak bU (aq)⟩
 case round=>
  clear q0 q1 q2 q3 q4 hlx;obtain ⟨k,laid,done,vv,YX,hk,rfl,rfl,hput,xE,hown,fN,hb⟩:=hrel;subst YX;have HP:=aa hput;have HB:=aa hb;have HO:=aa hown;have HX:=aa fN;obtain ⟨q0,q1,q2,q3,q4⟩:=fN;have hlx:=World.block_lt_of_cell? _ _ q0;clear hput hb hown;by_cases hlt:k<N
  case neg=>
   obtain rfl:k=N:=by omega
   have HD:=aa (show x.drop k=[] from List.drop_of_length_le (by rw[HN.o];omega));cases laid with
   |true=>
    have HF:=aa (show k8 x d false=done by rw[HP.o,HD.o];simp[k8]);have HSR:=aa HO.av;obtain ⟨p2,c2,hv2,_,_,_⟩:=HO.av;subst hv2;obtain ⟨L,hL⟩:=aG done.length;rw[hL] at HO xE ⊢;have ou:=aa hL;clear hL HSR;by_cases h64:64<L
    ·have HG:=aa (show fo x d=[] by rw[HW.o,HF.o,ou.o,if_pos h64])
     have ZJ:(64:Int)<(L:Int):=(by omega);clear h64;go_wp2_with fail;go_ret;exact ⟨_,rfl,by rw[HG.o];exact dn.none,HB⟩
    ·have HG:=aa (show fo x d=done by rw[HW.o,HF.o,ou.o,if_neg h64])
     have ZJ:¬(64:Int)<(L:Int):=(by omega);clear h64;go_wp2_with fail;go_ret;exact ⟨_,rfl,by rw[HG.o];exact HO.mono (by omega),HB⟩
   |false=>
    have HF:=aa (show k8 x d false=done++[d] by rw[HP.o,HD.o];simp[k8]);obtain ⟨g1,c1,w3,hrun,hown2,hb2⟩:=nC (F:=F) wr (w.heap.size+1) done.length vv done d _ _ _ HO rfl (by omega) hlx HI.1 HI.2 (zo.keep (r6 HB (fun k e=>by have:=HO.block k e;omega)));rw[EX.o] at hrun;have HR:=aa hrun;have nM:=aa hown2;have AQ:=aa (HB.trans (hb2.mono (by omega)));obtain ⟨L,hL⟩:=aG done.length;rw[hL] at HR nM xE;have ou:=aa hL;clear hrun hown2 hb2 hL;by_cases h64:64<L+1
    ·have HG:=aa (show fo x d=[] by rw[HW.o,HF.o,List.length_append,ou.o,if_pos (by simpa using h64)])
     have ZJ:(64:Int)<(L:Int)+1:=(by omega);clear h64;go_wp2_with (at_builtin;refine Lib.wpList_append_run _ rfl _ _ _ _ rfl _ _ rfl rfl _ _ HR.o ?_);go_ret;exact ⟨_,rfl,by rw[HG.o];exact dn.none,AQ⟩
    ·have HG:=aa (show fo x d=done++[d] by rw[HW.o,HF.o,List.length_append,ou.o,if_neg (by simpa using h64)])
     have ZJ:¬(64:Int)<(L:Int)+1:=(by omega);clear h64;go_wp2_with (at_builtin;refine Lib.wpList_append_run _ rfl _ _ _ _ rfl _ _ rfl rfl _ _ HR.o ?_);go_ret;exact ⟨_,rfl,by rw[HG.o];exact nM.mono (by omega),AQ⟩
  have fO:(k:Int)<(N:Int):=by omega
  obtain ⟨s,hs⟩:=fy (l:=x) (k:=k) (by rw[HN.o];omega);obtain ⟨i1,i2,g,o,a',b',c',rfl,e0,e1,e2,e3,e4,e5⟩:=HA.o k s hs;obtain ⟨pa',na',ca',pb',nb',cb',Uu,KX,Uv,rfl,rfl,rfl⟩:=bc e5;have HV0:=aa (show V5 g (o+k*5) s.id s.size (.slice pa' na' ca') (.slice pb' nb' cb') (.slice Uu KX Uv) w from ⟨(ar.1 e0).2,(ar.1 e1).2,(ar.1 e2).2,(ar.1 e3).2,(ar.1 e4).2⟩);have HV:=aa (HV0.below HB);have ZK:=aa (And.intro i1 i2);have yN:=aa e5;obtain ⟨r0,r1,r2,r3,r4⟩:=HV.o;have hd:x.drop k=s::x.drop (k+1):=by obtain ⟨hk2,hx⟩:=List.getElem?_eq_some_iff.1 hs;rw[List.drop_eq_getElem_cons hk2,hx]
  have uG:=HP.o;rw[hd,NM,EX.o] at uG;have om:=aa (show done.length+((if laid=false∧Q≤s.id then [d] else [])++(if s.id=Q then [] else [s]):List dy).length≤N+1 by
   have h1:=GF x d false;have h2:=HN.o;rw[uG] at h1;simp only[List.length_append,Bool.false_eq_true,if_false] at h1 ⊢;omega)
  have pT:=aa uG;clear hs hd uG e0 e1 e2 e3 e4 e5 i1 i2;obtain ⟨SI,Za⟩:∃S,s.id=S:=⟨_,rfl⟩
  have vI:=aa Za;rw[Za] at pT om HV0 HV r0;clear Za;by_cases tA:laid=false∧Q≤SI
  ·obtain ⟨rfl,hq⟩:=tA
   have B3:decide (Q≤SI)=true:=decide_eq_true hq;have sN:=aa (show SI=Q→k8 x d false=(done++[d])++k8 (x.drop (k+1)) d true∧(done++[d]).length≤N+1 from fun he=>⟨by
    rw[pT.o,if_pos ⟨rfl,hq⟩,if_pos he,B3];simp,by have:=om.o;rw[if_pos ⟨rfl,hq⟩,if_pos he] at this;simpa using this⟩)
   have FJ:=aa (show ¬SI=Q→k8 x d false=((done++[d])++[s])++k8 (x.drop (k+1)) d true∧((done++[d])++[s]).length≤N+1 from fun he=>⟨by
    rw[pT.o,if_pos ⟨rfl,hq⟩,if_neg he,B3];simp,by have:=om.o;rw[if_pos ⟨rfl,hq⟩,if_neg he] at this;simp at this ⊢;omega⟩)
   go_wp2_with fail;go_quiet (fail);obtain ⟨W2,hW2⟩:∃W,wr.drewN nq=W:=⟨_,rfl⟩
   have iO:Bw wr W2:=by rw[← hW2];exact ay aH _
   rw[hW2];have nM:=aa (HO.below iO);have AQ:=aV HB iO;have Cq:=aa (HX.below iO);have YZ:=aa (HV.below iO);have ZL:w.heap.size<W2.heap.size:=World.block_lt_of_cell? _ _ Cq.1;clear hW2 iO q0 q1 q2 q3 q4 r0 r1 r2 r3 r4 hlx;have HQ:=aa hq;clear hq;obtain ⟨q0,q1,q2,q3,q4⟩:=Cq.o;obtain ⟨g1,c1,w3,hrun,hown2,hb2⟩:=nC (F:=F) W2 (w.heap.size+1) done.length vv done d _ _ _ nM rfl (by omega) ZL HI.1 HI.2 (zo.keep (r6 AQ (fun k e=>by have:=nM.block k e;omega)));rw[EX.o] at hrun;have HR:=aa hrun;have qD:=aa hown2;have dG:=aa (AQ.trans (hb2.mono (by omega)));have kK:=aa (show pU w.heap.size (.int .i64 Q) (.int .i64 d.size) (.slice pa na ca) (.slice pb nb cb) (.slice pc nc cc) w3 from ⟨(hb2.cell (p:=⟨w.heap.size,0,none⟩) (by simp)).trans q0,(hb2.cell (p:=⟨w.heap.size,1,none⟩) (by simp)).trans q1,(hb2.cell (p:=⟨w.heap.size,2,none⟩) (by simp)).trans q2,(hb2.cell (p:=⟨w.heap.size,3,none⟩) (by simp)).trans q3,(hb2.cell (p:=⟨w.heap.size,4,none⟩) (by simp)).trans q4⟩);clear hrun hown2 hb2;go_wp2_with (at_builtin;refine Lib.wpList_append_run _ rfl _ _ _ _ rfl _ _ rfl rfl _ _ HR.o ?_);clear q0 q1 q2 q3 q4;have HV3:=aa (HV0.below dG);obtain ⟨q0,q1,q2,q3,q4⟩:=kK.o;obtain ⟨r0,r1,r2,r3,r4⟩:=HV3.o;have hlx:=World.block_lt_of_cell? _ _ q0;by_cases he:SI=Q
   ·have YY:(SI != Q)=false:=by rw[he];simp
    have HF:=aa (sN.o he).1;have nW:=aa (sN.o he).2;clear he;go_quiet (fail);go_wp2_with fail;go_roundw
    case rel=>refine ⟨k+1,true,done++[d],_,rfl,by omega,by go_num,rfl,HF.o,nW.o,qD.o.below (ay aH _),kK.o.below (ay aH _),ay dG.o _⟩
    case measure=>simp[intOf];omega
   ·have YY:(SI != Q)=true:=by rw[bne_iff_ne];exact he
    have HF:=aa (FJ.o he).1;have nW:=aa (FJ.o he).2;clear he;go_quiet (fail);obtain ⟨W4,qu⟩:∃W,w3.drewN nq=W:=⟨_,rfl⟩
    have iO:Bw w3 W4:=by rw[← qu];exact ay aH _
    rw[qu];have pP:=aa (qD.below iO);have gz:=aV dG iO;have jQ:=aa (kK.below iO);have HV4:=aa (HV3.below iO);have ZM:w.heap.size<W4.heap.size:=World.block_lt_of_cell? _ _ jQ.1;clear qu iO q0 q1 q2 q3 q4 r0 r1 r2 r3 r4 hlx;obtain ⟨q0,q1,q2,q3,q4⟩:=jQ.o;obtain ⟨r0,r1,r2,r3,r4⟩:=HV4.o;have aes:=nW.o;rw[List.length_append] at aes;obtain ⟨g2,c2,w5,hrun,hown2,hb2⟩:=nC (F:=F) W4 (w.heap.size+1) (done.length+1) _ (done++[d]) s _ _ _ pP (by simp) (by omega) ZM ZK.1 ZK.2 (yN.keep (r6 gz (fun k e=>by have:=pP.block k e;omega)));rw[vI.o] at hrun;have oG:=aa hrun;have Cr:=aa hown2;have bA:=aa (gz.trans (hb2.mono (by omega)));have fQ:=aa (show pU w.heap.size (.int .i64 Q) (.int .i64 d.size) (.slice pa na ca) (.slice pb nb cb) (.slice pc nc cc) w5 from ⟨(hb2.cell (p:=⟨w.heap.size,0,none⟩) (by simp)).trans q0,(hb2.cell (p:=⟨w.heap.size,1,none⟩) (by simp)).trans q1,(hb2.cell (p:=⟨w.heap.size,2,none⟩) (by simp)).trans q2,(hb2.cell (p:=⟨w.heap.size,3,none⟩) (by simp)).trans q3,(hb2.cell (p:=⟨w.heap.size,4,none⟩) (by simp)).trans q4⟩);clear hrun hown2 hb2 aes;go_wp2_with (at_builtin;refine Lib.wpList_append_run _ rfl _ _ _ _ rfl _ _ rfl rfl _ _ oG.o ?_);go_roundw
    case rel=>exact ⟨k+1,true,(done++[d])++[s],_,rfl,by omega,by go_num,rfl,HF.o,nW.o,Cr.o,fQ.o,bA.o⟩
    case measure=>simp[intOf];omega
  ·have KY:=aa tA
   have hc:laid=true∨(laid=false∧decide (Q≤SI)=false):=by
    cases laid
    ·exact .inr ⟨rfl,decide_eq_false fun h=>tA ⟨rfl,h⟩⟩
    ·exact .inl rfl
   have HL:=aa (show (laid || decide (Q≤SI))=laid by rcases hc with rfl|⟨rfl,h⟩ <;> simp[*]);have sN:=aa (show SI=Q→k8 x d false=done++k8 (x.drop (k+1)) d laid from fun he=>by
    rw[pT.o,if_neg KY.o,if_pos he,HL.o];simp)
   have FJ:=aa (show ¬SI=Q→k8 x d false=(done++[s])++k8 (x.drop (k+1)) d laid∧(done++[s]).length≤N+1 from fun he=>⟨by
    rw[pT.o,if_neg KY.o,if_neg he,HL.o];simp,by have:=om.o;rw[if_neg KY.o,if_neg he] at this;simpa using this⟩)
   clear tA;rcases hc with rfl|⟨rfl,hq⟩
   all_goals
    go_wp2_with fail;go_quiet (fail);obtain ⟨W2,hW2⟩:∃W,wr.drewN nq=W:=⟨_,rfl⟩
    have iO:Bw wr W2:=by rw[← hW2];exact ay aH _
    rw[hW2];have nM:=aa (HO.below iO);have AQ:=aV HB iO;have Cq:=aa (HX.below iO);have YZ:=aa (HV.below iO);have ZL:w.heap.size<W2.heap.size:=World.block_lt_of_cell? _ _ Cq.1;clear hW2 iO q0 q1 q2 q3 q4 r0 r1 r2 r3 r4 hlx;obtain ⟨q0,q1,q2,q3,q4⟩:=Cq.o;obtain ⟨r0,r1,r2,r3,r4⟩:=YZ.o;go_wp2_with fail;by_cases he:SI=Q
    ·have YY:(SI != Q)=false:=by rw[he];simp
     have HF:=aa (sN.o he);clear he;go_quiet (fail);go_wp2_with fail;go_roundw
     case rel=>exact ⟨k+1,_,done,_,rfl,by omega,by go_num,rfl,HF.o,xE,nM.o.below (ay aH _),Cq.o.below (ay aH _),ay AQ.o _⟩
     case measure=>simp[intOf];omega
    ·have YY:(SI != Q)=true:=by rw[bne_iff_ne];exact he
     have HF:=aa (FJ.o he).1;have nW:=aa (FJ.o he).2;clear he;go_quiet (fail);obtain ⟨W4,qu⟩:∃W,W2.drewN nq=W:=⟨_,rfl⟩
     have iO:Bw W2 W4:=by rw[← qu];exact ay aH _
     rw[qu];have pP:=aa (nM.below iO);have gz:=aa (ak AQ iO);have jQ:=aa (Cq.below iO);have HV4:=aa (YZ.below iO);have ZM:w.heap.size<W4.heap.size:=World.block_lt_of_cell? _ _ jQ.1;clear qu iO q0 q1 q2 q3 q4 r0 r1 r2 r3 r4 ZL;obtain ⟨q0,q1,q2,q3,q4⟩:=jQ.o;obtain ⟨r0,r1,r2,r3,r4⟩:=HV4.o;obtain ⟨g2,c2,w5,hrun,hown2,hb2⟩:=nC (F:=F) W4 (w.heap.size+1) done.length _ done s _ _ _ pP rfl (by omega) ZM ZK.1 ZK.2 (yN.keep (r6 gz (fun k e=>by have:=pP.block k e;omega)));rw[vI.o] at hrun;have oG:=aa hrun;have Cr:=aa hown2;have bA:=aa (gz.trans (hb2.mono (by omega)));have fQ:=aa (show pU w.heap.size (.int .i64 Q) (.int .i64 d.size) (.slice pa na ca) (.slice pb nb cb) (.slice pc nc cc) w5 from ⟨(hb2.cell (p:=⟨w.heap.size,0,none⟩) (by simp)).trans q0,(hb2.cell (p:=⟨w.heap.size,1,none⟩) (by simp)).trans q1,(hb2.cell (p:=⟨w.heap.size,2,none⟩) (by simp)).trans q2,(hb2.cell (p:=⟨w.heap.size,3,none⟩) (by simp)).trans q3,(hb2.cell (p:=⟨w.heap.size,4,none⟩) (by simp)).trans q4⟩);clear hrun hown2 hb2;go_wp2_with (at_builtin;refine Lib.wpList_append_run _ rfl _ _ _ _ rfl _ _ rfl rfl _ _ oG.o ?_);go_roundw
     case rel=>exact ⟨k+1,_,done++[s],_,rfl,by omega,by go_num,rfl,HF.o,nW.o,Cr.o,fQ.o,bA.o⟩
     case measure=>simp[intOf];omega
end Go.Proofs.YtbigkioechkngaaGreat
