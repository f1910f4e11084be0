/- The proof, part 9. -/
import Derived.Test.YtbigkioechkngaaGreatR6
import Derived.Test.YtbigkioechkngaaGreatR7
set_option maxRecDepth 100000
set_option maxHeartbeats 8000000
namespace Go.Proofs.YtbigkioechkngaaGreat
open Go.RowKit Tryz
variable {s:ByteArray}{pos:Int}{l:List Bool}{B b g j k n:Nat}{F:Nat→Prop}{v vc vd vf vk vp:Value}{W w:World}{d:aO}
theorem GS:(prog.info? 9).map (fun i=>(i.zero,i.size,i.bytes))=some (some (.string ⟨#[]⟩),1,16):=by kernel_rfl
theorem Kd {α:Type} {f:α→List Value} (hf:∀x,(f x).length=1) {l:List α} {i:Nat} {x:α} {a:Value} (hi:i<l.length) (hx:f x=[a]):(bk f l).set i a=bk f (l.set i x):=by
 unfold bk;have hall:nB 1 (l.map f):=fun q hq=>by obtain ⟨y,_,rfl⟩:=List.mem_map.1 hq;exact hf y
 obtain ⟨u,hu⟩:∃u,f l[i]=[u]:=by
  have:=hf l[i]
  match h:f l[i],this with
  |[u],_=>exact ⟨u,rfl⟩
 have h1:(l.map f)[i]?=some [u]:=by rw[List.getElem?_map,List.getElem?_eq_getElem hi,← hu];rfl
 have e1:=pU (r:=0) a hall h1 (by decide);rw[Nat.add_zero,Nat.mul_one] at e1;rw[e1,List.map_set,hx];rfl
theorem yR {α:Type} {cap:Nat} {e:TypeId} {f:α→List Value} (hf:∀x,(f x).length=1) {l:List α} (h:w.ownsRow B e 1 (.slice (some ⟨g,0,none⟩) n cap) n (bk f l)) {i:Nat} {x:α} {a:Value} (hi:i<l.length) (hx:f x=[a]) :
 (w.setCell ⟨g,i,none⟩ a).ownsRow B e 1 (.slice (some ⟨g,0,none⟩) n cap) n (bk f (l.set i x)):=by
 have hlen:=lI hf l;have h1:=lU h i a (by omega);rw[Kd hf hi hx] at h1;exact h1
theorem NM (l:List ByteArray) (pos:Nat) (s:ByteArray) (v1:Value) (w:World) (h:dw w v1 1 kX l) (hp:pos<l.length) (hl:l.length≤1000000):Calls prog 175 #[v1,.int .i64 pos,.string s] w fun e w'=>∃v,e=.returned v∧w'.ownsRow w.heap.size 9 1 v l.length (bk kX (l.set pos s))∧Bw w w':=by
 obtain ⟨p,c,rfl,_,_,hc,jh⟩:=h.src jd uy (by decide);obtain ⟨i0,iM,hz0,hz1,hz2⟩:=info_parts GS;obtain ⟨v',w1,r1,o1,g1⟩:=dM (P:=prog) (w.alloc (.cells #[] 9)) w.heap.size 22 22 9 i0 (.string ⟨#[]⟩) 1 16 underlying22 iM hz0 hz1 hz2 rfl (by decide) _ 0 [] (World.ownsRow_made w #[] 0 aT (by unfold maxLen;omega) rfl) p l.length c _ (jh.stays (ar)) hc (by unfold maxLen;omega) (by omega) (by simp);rw[List.nil_append,Nat.zero_add] at o1;have hb1:Bw w w1:=fy (il g1) aT (fun k hk=>by simp[Value.ownBlock] at hk;omega);rcases aJ o1 with ⟨_,e,_⟩|⟨g,cap,rfl⟩
 ·omega
 have f0:=gj o1 pos;obtain ⟨x0,hx0⟩:∃x,l[pos]?=some x:=⟨_,List.getElem?_eq_getElem hp⟩
 have c0:w1.cell? ⟨g,pos,none⟩=some (.string x0):=by obtain ⟨h6,h7⟩:=List.getElem?_eq_some_iff.1 (eN jd l pos x0 0 (.string x0) hx0 rfl);have:=bG o1 _ h6;rw[h7] at this;simpa using this
 have dJ:=aa r1;have ow:=aa (yR jd o1 hp (x:=s) rfl);have yC:=aa (hb1.setCell (p:=⟨g,pos,none⟩) (o1.lt g rfl).1 (.string s));have p0:(0:Int)≤(pos:Int):=by omega
 have p1:(pos:Int)<(l.length:Int):=by omega
 obtain ⟨n,hn⟩:=aG l.length;rw[hn] at dJ ow p1 ⊢;clear r1 o1 g1 hb1 jh hp hl hn h hx0;go_enter func175,ntmps175;go_wp2_with (at_builtin;refine Lib.wpList_append_run _ rfl _ _ _ _ rfl _ _ rfl rfl _ _ dJ.o ?_);go_ret;exact ⟨_,rfl,ow,yC⟩
def Vt (F:Nat→Prop) (w:World) (d:aO) (e:Ending) (w':World):Prop:=∃vk vc vp,e=.returned (ew d vk vc vp)∧bN (mask F w') d vk vc vp∧Bw w w'
theorem aC {G:Nat→Prop} {w':World} (hb:Bw w w') (h:∀q,q<w.heap.size→F q→G q):dI (mask F w) (mask G w'):=fun _ _ hv=>by obtain ⟨h1,h2⟩:=aq.1 hv;exact aq.2 ⟨h _ (World.block_lt_of_cell? _ _ h2) h1,ae hb h2⟩
theorem aM {u:Value} (h:¬F b):dI (mask F w) (mask F (w.setCell ⟨b,j,none⟩ u)):=fun a _ hv=>by obtain ⟨h1,h2⟩:=aq.1 hv;exact aq.2 ⟨h1,(av _ _ _ _).cell h2 (fun e=>h (by injection e with e;rw[← e];exact h1))⟩
theorem ox (w:World):bN w iU (.slice none 0 0) (.slice none 0 0) (.slice none 0 0):=⟨lu _ _ _,lu _ _ _,iG _,⟨fun s h=>by simp[iU] at h,fun s h=>by simp[iU] at h,by unfold iU aQ;simp⟩⟩
theorem sK {c:List fq} {p:fq} {b:Bool} {s:List ByteArray} (hc:c[k]?=some p) (hl:l[k]?=some b):cK (c.drop k) (l.drop k) s=cK (c.drop (k+1)) (l.drop (k+1)) (if b=true then s.set p.1.toNat p.2 else s):=by obtain ⟨h1,rfl⟩:=List.getElem?_eq_some_iff.1 hc;obtain ⟨h2,rfl⟩:=List.getElem?_eq_some_iff.1 hl;rw[List.drop_eq_getElem_cons h1,List.drop_eq_getElem_cons h2,cK]
theorem lA {c:List fq} {s:List ByteArray} (h:c.length≤k∨l.length≤k):cK (c.drop k) (l.drop k) s=s:=by
 rcases h with h|h
 ·rw[List.drop_of_length_le h,cK];intro p c' b l' h;cases h
 ·rw[List.drop_of_length_le h];cases c.drop k <;> simp[cK]
theorem uG:∀(c:List fq) (l:List Bool) (s:List ByteArray),(cK c l s).length=s.length
 |p::c,b::l,s=>by rw[cK,uG c l];split <;> simp
 |[],_,s=>by rw[cK];intro p c' b l' h;cases h
 |_::_,[],s=>by rw[cK];intro p c' b l' _ h;cases h
theorem oX:∀(c:List fq) (l:List Bool) (s:List ByteArray),∀x∈cK c l s,x∈s∨∃p∈c,p.2=x
 |p::c,b::l,s,x,h=>by
  rw[cK] at h;rcases oX c l _ x h with h|⟨q,hq,e⟩
  ·split at h
   ·rcases List.mem_or_eq_of_mem_set h with h|rfl
    ·exact .inl h
    ·exact .inr ⟨p,by simp,rfl⟩
   ·exact .inl h
  ·exact .inr ⟨q,by simp[hq],e⟩
 |[],l,s,x,h=>by rw[cK] at h;exact .inl h;intro p c' b l' h;cases h
 |_::_,[],s,x,h=>by rw[cK] at h;exact .inl h;intro p c' b l' _ h;cases h
theorem eH.set {vk' vc' vf' vp' vd':Value} (h:eH W b vk vc vf vp vd):eH (((((W.setCell ⟨b,0,none⟩ vk').setCell ⟨b,1,none⟩ vc').setCell ⟨b,2,none⟩ vf').setCell ⟨b,3,none⟩ vp').setCell ⟨b,4,none⟩ vd') b vk' vc' vf' vp' vd':=by
 obtain ⟨h0,h1,h2,h3,h4⟩:=h;have go:∀(V:World) (i j:Nat) (u v:Value),i≠j→V.cell? ⟨b,j,none⟩=some u→(V.setCell ⟨b,i,none⟩ v).cell? ⟨b,j,none⟩=some u:=fun V i j u v xz hu=>by rw[World.cell?_setCell_other _ _ _ _ (fun e=>xz (by injection e)),hu]
 refine ⟨?_,?_,?_,?_,?_⟩
 ·exact go _ 4 0 _ _ (by decide) (go _ 3 0 _ _ (by decide) (go _ 2 0 _ _ (by decide) (go _ 1 0 _ _ (by decide) (World.cell?_setCell_same _ _ _ h0))))
 ·exact go _ 4 1 _ _ (by decide) (go _ 3 1 _ _ (by decide) (go _ 2 1 _ _ (by decide) (World.cell?_setCell_same _ _ _ (go _ 0 1 _ _ (by decide) h1))))
 ·exact go _ 4 2 _ _ (by decide) (go _ 3 2 _ _ (by decide) (World.cell?_setCell_same _ _ _ (go _ 1 2 _ _ (by decide) (go _ 0 2 _ _ (by decide) h2))))
 ·exact go _ 4 3 _ _ (by decide) (World.cell?_setCell_same _ _ _ (go _ 2 3 _ _ (by decide) (go _ 1 3 _ _ (by decide) (go _ 0 3 _ _ (by decide) h3))))
 ·exact World.cell?_setCell_same _ _ _ (go _ 3 4 _ _ (by decide) (go _ 2 4 _ _ (by decide) (go _ 1 4 _ _ (by decide) (go _ 0 4 _ _ (by decide) h4))))
theorem eH.far (h:eH W b vk vc vf vp vd) {b':Nat} (hne:b'≠b) (u:Value):eH (W.setCell ⟨b',j,none⟩ u) b vk vc vf vp vd:=h.grown (av W b' j u) (fun e=>hne (by injection e with e;exact e.symm))
theorem eH.qw (h:eH W b vk vc vf vp vd) (u:Value):eH (W.setCell ⟨b,0,none⟩ u) b u vc vf vp vd:=by
 obtain ⟨h0,h1,h2,h3,h4⟩:=h;have go:∀(j:Nat) (u v:Value),0≠j→W.cell? ⟨b,j,none⟩=some u→(W.setCell ⟨b,0,none⟩ v).cell? ⟨b,j,none⟩=some u:=fun j u v xz hu=>by rw[World.cell?_setCell_other _ _ _ _ (fun e=>xz (by injection e)),hu]
 exact ⟨World.cell?_setCell_same _ _ _ h0,go 1 _ _ (by decide) h1,go 2 _ _ (by decide) h2,go 3 _ _ (by decide) h3,go 4 _ _ (by decide) h4⟩
theorem Vu (h:fZ d=false):yz d l=iU:=by unfold yz;rw[if_pos h]
theorem RL (h:fZ d=true):yz d l=⟨cK d.cache l d.kept,[],-1,[],true⟩:=by unfold yz;rw[if_neg (by rw[h];simp)]
theorem NN {e:TypeId} {xs:List Value} (h:w.ownsRow B e k v n xs):∃p c,v=.slice p n c:=by
 rcases h.2 with ⟨h1,h2⟩|⟨g,cap,cur,h1,_⟩
 ·exact ⟨none,0,by rw[h1,h2]⟩
 ·exact ⟨_,cap,h1⟩
theorem kZ {e:TypeId} {xs:List Value} (h:w.ownsRow B e k v n xs) (hb:v.ownBlock=some b):B≤b:=(h.lt _ hb).1
theorem adj {W':World} (h:∀b j,B≤b→b≤B+1→W.frozen? ⟨b,j,none⟩=false) (hx:eH W (B+1) vk vc vf vp vd) (hb:Bw W W'):W'.frozen? ⟨B+1,0,none⟩=false∧W'.frozen? ⟨B+1,1,none⟩=false∧W'.frozen? ⟨B+1,2,none⟩=false∧W'.frozen? ⟨B+1,3,none⟩=false∧W'.frozen? ⟨B+1,4,none⟩=false:=by have hlt:=World.block_lt_of_cell? _ _ hx.1;have key:∀j,W'.frozen? ⟨B+1,j,none⟩=false:=fun j=>(hb.frozen (p:=⟨B+1,j,none⟩) hlt).trans (h (B+1) j (by omega) aT);exact ⟨key 0,key 1,key 2,key 3,key 4⟩
theorem dY {v0 v1 v2 v3 v4:Value} (h:Below B w W) (hb:B≤b):Below B w (((((W.setCell ⟨b,0,none⟩ v0).setCell ⟨b,1,none⟩ v1).setCell ⟨b,2,none⟩ v2).setCell ⟨b,3,none⟩ v3).setCell ⟨b,4,none⟩ v4):=
 (((((h.setCell (p:=⟨b,0,none⟩) hb _).setCell (p:=⟨b,1,none⟩) hb _).setCell (p:=⟨b,2,none⟩) hb _).setCell (p:=⟨b,3,none⟩) hb _).setCell (p:=⟨b,4,none⟩) hb _)
def YL (F:Nat→Prop) (w5:World) (b:Nat) (_kept:List ByteArray) (cache:List fq) (keep:List Bool) (N M:Nat) (vc vf vp vd:Value) (t:List ByteArray) (i:Value) (wr:World):Prop:=
 ∃(k:Nat) (pk:Option Addr) (ck:Nat) (s:List ByteArray),k≤M∧i=.int .i64 k∧s.length=N∧eH wr b (.slice pk N ck) vc vf vp vd∧wr.frozen? ⟨b,0,none⟩=false∧dw (mask (fun q=>F q∧q≠b∧q≠b+1) wr) (.slice pk N ck) 1 kX s∧cK (cache.drop k) (keep.drop k) s=t∧w5.grownBy wr (some b)
theorem RM (d:aO) (l:List Bool) (vk vc vp vl:Value) (w:World) (F:Nat→Prop) (hF:∀q,w.heap.size≤q→F q) (hm:bN (mask F w) d vk vc vp) (hl:dy w vl l):Calls prog 142 #[ew d vk vc vp,vl] w (Vt F w (yz d l)):=by
 have h:bN w d vk vc vp:=hm.keeps nE;have HMF:=aa hm.kept;clear hm;have xH:=aa hF;clear hF;have eJ:=aa (fun W (hb:Bw w W)=>vN d vk vc vp W (h.below hb));have HD:=aa h;have vE:=aa (fun W (hb:Bw w W)=>(hl.keep (af hb)));have HKW:=aa (fun (G:Nat→Prop) (W:World) (hb:Bw w W) (hG:∀q,q<w.heap.size→F q→G q)=>show dw (mask G W) vk 1 kX d.kept from HMF.keep (aC hb hG));clear HMF;obtain ⟨pk,ck,rfl,a1,a2⟩:=h.kept.slice;obtain ⟨pc,cc,rfl,b1,b2⟩:=h.cache.slice;obtain ⟨pp,cp,rfl,_,_⟩:=h.keep.slice;obtain ⟨pl,cl,rfl,e1,e2⟩:=hl.slice;have HC:=aa h.cache.cells;obtain ⟨m,hm⟩:=aG (fZ d);have yN:=aa (gu d);rw[hm] at eJ yN;have HM:=aa hm;obtain ⟨r,hr⟩:=aG (yz d l);have HR:=aa hr;rw[hr];obtain ⟨kept,cache,ah,keep,dead⟩:=d;simp only at HC a1 b1 yN HKW;unfold ew at eJ ⊢;simp only at eJ ⊢;obtain ⟨N,hN⟩:=aG kept.length;obtain ⟨M,hM⟩:=aG cache.length;obtain ⟨L,hL⟩:=aG keep.length;obtain ⟨Q,hQ⟩:=aG l.length;rw[hN,hM,hL] at eJ;rw[hN] at HKW yN;rw[hM] at yN;rw[hQ] at vE e1;rw[hN,hM,hL,hQ];rw[hN] at a1;rw[hM] at b1;have HN:=aa hN;have rZ:=aa hM;have HQL:=aa hQ;have lN:=fG (n:=N) a2;have lM:=fG (n:=M) b2;have lQ:=fG (n:=Q) e2;clear h hN hM hL a1 a2 b1 b2 hm hl hQ e1 e2 hr;obtain ⟨W1,hW1⟩:=aG ((w.alloc (.cells #[.slice pk N ck,.slice pc M cc,.int .i64 ah,.slice pp L cp,.bool dead] 26)).alloc (.cells #[.slice none 0 0,.slice none 0 0,.int .i64 0,.slice none 0 0,.bool false] 26));have aY:=aa (show Bw w W1 by rw[← hW1];exact (ar).alloc (by simp) _);have aU:=aa (show eH W1 w.heap.size (.slice pk N ck) (.slice pc M cc) (.int .i64 ah) (.slice pp L cp) (.bool dead) by rw[← hW1];exact (eH.new w _ _ _ _ _ _).below (ar));have JM:=aa (show eH W1 (w.heap.size+1) (.slice none 0 0) (.slice none 0 0) (.int .i64 0) (.slice none 0 0) (.bool false) by
  rw[← hW1];have:=eH.new (w.alloc (.cells #[.slice pk N ck,.slice pc M cc,.int .i64 ah,.slice pp L cp,.bool dead] 26)) (.slice none 0 0) (.slice none 0 0) (.int .i64 0) (.slice none 0 0) (.bool false) 26;rw[show (w.alloc (.cells #[.slice pk N ck,.slice pc M cc,.int .i64 ah,.slice pp L cp,.bool dead] 26)).heap.size=w.heap.size+1 by simp] at this;exact this)
 have sA:=aa (show ∀b j,w.heap.size≤b→b≤w.heap.size+1→W1.frozen? ⟨b,j,none⟩=false by
  rw[← hW1];intro b j hb1 hb2;rcases (show b=w.heap.size∨b=w.heap.size+1 by omega) with e|e <;> subst e <;> simp)
 have ee:=aa hW1;clear hW1;have YM:=aa (show w.heap.size+1<W1.heap.size from World.block_lt_of_cell? _ ⟨w.heap.size+1,0,none⟩ JM.1);have adk:=aa (show w.heap.size<W1.heap.size from World.block_lt_of_cell? _ ⟨w.heap.size,0,none⟩ aU.1);go_enter func142,ntmps142;go_upto_region 1 with fail;rw[ee.o];obtain ⟨x0,x1,x2,x3,x4⟩:=aU.o;cases m with
 |false=>
  have HE:=aa (HR.symm.trans (Vu HM));clear x1 x2 x3 x4;clear x0;obtain ⟨x0,x1,x2,x3,x4⟩:=aU.o;go_wp2_with (go_at_call 49;(refine (eJ.o _ aY.o).mono ?_);rintro e w5 ⟨rfl,aR⟩;have bp:=bh aY aR;have Fe:=aa (JM.o.below aR);obtain ⟨y0,y1,y2,y3,y4⟩:=JM.o.below aR;have Em:=aa (adj sA.o JM.o aR);obtain ⟨f0,f1,f2,f3,f4⟩:=adj sA.o JM.o aR;clear aR);obtain ⟨q0,q1,q2,q3,q4⟩:=Fe.set (vk':=.slice none 0 0) (vc':=.slice none 0 0) (vf':=.int .i64 0) (vp':=.slice none 0 0) (vd':=.bool false);refine au (v:=.agg #[.slice none 0 0,.slice none 0 0,.int .i64 0,.slice none 0 0,.bool false]) ⟨.slice none 0 0,.slice none 0 0,.slice none 0 0,by rw[HE.o];rfl,by rw[HE.o];exact ox _,?_⟩ ?_
  ·exact dY bp (Nat.le_succ _)
  ·simp[results,results142,go_sem,q0,q1,q2,q3,q4]
 |true=>
  have HE:=aa (HR.symm.trans (RL HM));simp only at HE;have uH:=aa (yN.1 rfl);obtain ⟨t,ht⟩:=aG (cK cache l kept);rw[ht] at HE;have HT:=aa ht;clear ht;go_upto_region 3 with (go_at_call 49;(refine (eJ.o _ aY.o).mono ?_);rintro e w5 ⟨rfl,aR⟩;have bp:=bh aY aR;have fK:=aa (aU.o.below aR);have Fe:=aa (JM.o.below aR);have ajf:=aa (show ∀j,w5.frozen? ⟨w.heap.size+1,j,none⟩=false from fun j=>(aR.frozen (p:=⟨w.heap.size+1,j,none⟩) YM.o).trans (sA.o _ j (Nat.le_succ _) aT));have HG5:=aa (show ∀j,w5.frozen? ⟨w.heap.size,j,none⟩=false from fun j=>(aR.frozen (p:=⟨w.heap.size,j,none⟩) adk.o).trans (sA.o _ j aT (Nat.le_succ _)));clear aR);clear x0 x1 x2 x3 x4;have U9:=aa (HKW.o (fun q=>F q∧q≠w.heap.size∧q≠w.heap.size+1) w5 bp (fun q hq hf=>⟨hf,by omega,by omega⟩));go_wp2_with fail;go_loopw [5] (fun i wr=>YL F w5 w.heap.size kept cache l N M (.slice pc M cc) (.int .i64 ah) (.slice pp L cp) (.bool dead) t i wr) (fun i _=>M-(intOf i).toNat)
  case atStart=>exact ⟨0,pk,ck,kept,dO,rfl,HN,fK,HG5 0,U9,by rw[List.drop_zero,List.drop_zero];exact HT,ko _ _⟩
  case round=>
   obtain ⟨k,GU,Mk,s,hk,rfl,wV,fI,rB,hrow,tj,hgr⟩:=hrel;have Ml:=aa wV;have sB:=aa fI;have JU:=aa rB;have bU:=aa hrow;have jZ:=aa tj;have zy:=aa hgr;have mU:=aa (show Bw w wr from bp.grown hgr bp.size (fun b hb=>by simp at hb;omega));obtain ⟨x0,x1,x2,x3,x4⟩:=fI;clear wV rB hrow tj hgr;by_cases hlt:k<M∧k<Q
   case neg=>
    have Yv:=aa (show s=t by rw[← jZ.o];exact (lA (by rw[rZ.o,HQL.o];omega)).symm);have HY:=aa (Fe.grown zy (fun e=>by injection e with e;omega));have HFY:=aa (show ∀j,wr.frozen? ⟨w.heap.size+1,j,none⟩=false from fun j=>by
     have hh:w5.heap[w.heap.size+1]?=wr.heap[w.heap.size+1]?:=(zy.block _ (World.block_lt_of_cell? _ _ Fe.1) (fun e=>by simp at e)).symm;have h5:=ajf.o j;unfold World.frozen? at h5 ⊢;simp only at h5 ⊢;rw[← hh];exact h5)
    obtain ⟨y0,y1,y2,y3,y4⟩:=HY.o;have f0:=HFY.o 0;have f1:=HFY.o 1;have f2:=HFY.o 2;have f3:=HFY.o 3;have f4:=HFY.o 4;obtain ⟨q0,q1,q2,q3,q4⟩:=HY.set (vk':=.slice GU N Mk) (vc':=.slice none 0 0) (vf':=.int .i64 (-1)) (vp':=.slice none 0 0) (vd':=.bool true);have HDA:=aa (show bN (mask F (((((wr.setCell ⟨w.heap.size+1,0,none⟩ (.slice GU N Mk)).setCell ⟨w.heap.size+1,1,none⟩ (.slice none 0 0)).setCell ⟨w.heap.size+1,2,none⟩ (.int .i64 (-1))).setCell ⟨w.heap.size+1,3,none⟩ (.slice none 0 0)).setCell ⟨w.heap.size+1,4,none⟩ (.bool true))) r (.slice GU N Mk) (.slice none 0 0) (.slice none 0 0) by
     rw[HE.o];refine ⟨?_,lu _ _ _,iG _,?_⟩
     ·show dw _ _ _ _ t
      rw[← Yv.o];refine bU.keep (fun a u hu=>?_);obtain ⟨⟨h0,_,h2⟩,h3⟩:=aq.1 hu;have hne:∀c,c=w.heap.size+1→some a.block≠some c:=fun c hc e=>by injection e with e;exact h2 (e.trans hc)
      exact aq.2 ⟨h0,(av _ _ _ _).cell ((av _ _ _ _).cell ((av _ _ _ _).cell ((av _ _ _ _).cell ((av _ _ _ _).cell h3 (hne _ rfl)) (hne _ rfl)) (hne _ rfl)) (hne _ rfl)) (hne _ rfl)⟩
     ·rw[← HT.o]
      refine ⟨fun x hx=>?_,fun s h=>by simp at h,by show aQ (-1);unfold aQ;omega⟩;rcases oX _ _ _ x hx with h|⟨p,h,rfl⟩
      ·exact HD.bd.1 x h
      ·exact (HD.bd.2 p h).2)
    have uq:=aa (dY (v0:=.slice GU N Mk) (v1:=.slice none 0 0) (v2:=.int .i64 (-1)) (v3:=.slice none 0 0) (v4:=.bool true) mU (Nat.le_succ w.heap.size));have hc:¬(k:Int)<(M:Int)∨((k:Int)<(M:Int)∧¬(k:Int)<(Q:Int)):=by omega
    clear hlt;rcases hc with c1|⟨c1,c2⟩
    ·have d1:decide ((k:Int)<(M:Int))=false:=by simp;omega
     have d2:decide (k<M)=false:=by simp;omega
     go_wp2_with fail;refine au (v:=.agg #[.slice GU N Mk,.slice none 0 0,.int .i64 (-1),.slice none 0 0,.bool true]) ⟨.slice GU N Mk,.slice none 0 0,.slice none 0 0,by rw[HE.o];rfl,HDA,uq⟩ ?_;simp[results,results142,go_sem,q0,q1,q2,q3,q4]
    ·have d1:decide ((k:Int)<(M:Int))=true:=by simp;omega
     have d2:decide (k<M)=true:=by simp;omega
     have d3:decide (k<Q)=false:=by simp;omega
     go_wp2_with fail;refine au (v:=.agg #[.slice GU N Mk,.slice none 0 0,.int .i64 (-1),.slice none 0 0,.bool true]) ⟨.slice GU N Mk,.slice none 0 0,.slice none 0 0,by rw[HE.o];rfl,HDA,uq⟩ ?_;simp[results,results142,go_sem,q0,q1,q2,q3,q4]
   case pos=>
   obtain ⟨hlM,hlQ⟩:=hlt;have hkM:(k:Int)<(M:Int):=by omega
   have hkQ:(k:Int)<(Q:Int):=(by omega);have e2:decide (k<M)=true:=by simp;omega
   have e3:decide (k<Q)=true:=by simp;omega
   obtain ⟨⟨y,u⟩,hu⟩:∃s,cache[k]?=some s:=⟨_,List.getElem?_eq_getElem (by rw[rZ.o];exact hlM)⟩
   obtain ⟨bt,Ud⟩:∃s,l[k]?=some s:=⟨_,List.getElem?_eq_getElem (by rw[HQL.o];exact hlQ)⟩
   obtain ⟨gl,ol,rfl,z0⟩:=(vE.o wr mU).cells k bt Ud;have fX:=aa ((sK (s:=s) hu Ud).symm.trans jZ);have BL:=uH.2.2 _ (List.mem_of_getElem? hu);simp only at fX BL;obtain ⟨gc,oc,rfl,hcell⟩:=HC.o k _ hu;have r0:=ae mU (hcell 0 _ rfl);have r1:=ae mU (hcell 1 _ rfl);replace r0:wr.cell? ⟨gc,oc+k*2,none⟩=some (.int .i64 y):=r0;replace r1:wr.cell? ⟨gc,oc+k*2+1,none⟩=some (.string u):=r1;have HGC:=aa (show gc≠w.heap.size from fun e=>by have:=World.block_lt_of_cell? _ _ (hcell 0 _ rfl);simp only at this;omega);clear hcell hu Ud;cases bt with
   |false=>
    rw[if_neg (by simp)] at fX;go_wp2_with fail;go_roundw
    case rel=>exact ⟨k+1,GU,Mk,s,by omega,by go_num,Ml.o,sB.o,JU.o,bU.o,fX.o,zy.o⟩
    case measure=>simp[intOf];omega
   |true=>
    rw[if_pos rfl] at fX;obtain ⟨Y,rfl⟩:∃Y:Nat,y=Y:=⟨y.toNat,by omega⟩
    rw[Int.toNat_natCast] at fX;have hdr:Bw wr wr.drew:=aH.drew;have HWI:=aa (NM s Y u (.slice GU N Mk) wr.drew ((bU.keep nE).keep (af hdr)) (by rw[Ml.o];omega) (by rw[Ml.o];have:=uH.1;omega));rw[Ml.o] at HWI;go_upto_region 7 with fail;have kJ:=aa (show wr.drew.cell? ⟨w.heap.size,1,none⟩=some (.slice (some ⟨gc,oc,none⟩) M cc)∧wr.drew.cell? ⟨gc,oc+k*2,none⟩=some (.int .i64 (Y:Nat))∧wr.drew.cell? ⟨gc,oc+k*2+1,none⟩=some (.string u) from ⟨ae hdr x1,ae hdr r0,ae hdr r1⟩);have adm:=ae hdr x0;have MQ:(0:Int)≤(k:Int):=by omega
    refine wp_region_held_drew (S:=fun w'=>w'.cell? ⟨w.heap.size,1,none⟩=some (.slice (some ⟨gc,oc,none⟩) M cc)∧w'.cell? ⟨gc,oc+k*2,none⟩=some (.int .i64 (Y:Nat))∧w'.cell? ⟨gc,oc+k*2+1,none⟩=some (.string u)) (by kernel_rfl) kJ (fun hHeld=>?_);refine cB 0 27 (.pointer (some ⟨w.heap.size,0,none⟩)) rfl rfl hHeld ?_;simp only[aD];refine cB 2 29 (.pointer (some ⟨w.heap.size,1,none⟩)) rfl rfl hHeld ?_;simp only[aD];refine cB 3 30 (.slice (some ⟨gc,oc,none⟩) M cc) rfl rfl hHeld ?_;simp only[aD];refine cB 4 31 (.int .i64 k) rfl rfl hHeld ?_;simp only[aD];refine cB 5 32 (.pointer (some ⟨gc,oc+k*2,none⟩)) rfl rfl hHeld ?_;simp only[aD];refine cB 6 33 (.pointer (some ⟨gc,oc+k*2,none⟩)) rfl rfl hHeld ?_;simp only[aD];refine cB 7 34 (.int .i64 (Y:Nat)) rfl rfl hHeld ?_;simp only[aD];refine cB 8 35 (.pointer (some ⟨w.heap.size,1,none⟩)) rfl rfl hHeld ?_;simp only[aD];refine cB 9 36 (.slice (some ⟨gc,oc,none⟩) M cc) rfl rfl hHeld ?_;simp only[aD];refine cB 10 37 (.int .i64 k) rfl rfl hHeld ?_;simp only[aD];refine cB 11 38 (.pointer (some ⟨gc,oc+k*2,none⟩)) rfl rfl hHeld ?_;simp only[aD];refine cB 12 39 (.pointer (some ⟨gc,oc+k*2+1,none⟩)) rfl rfl hHeld ?_;simp only[aD];refine cB 13 40 (.string u) rfl rfl hHeld ?_;simp only[aD];refine kh 1 rfl (fun K hK=>?_);go_simp;refine hK.out _ _ kJ (fun hHeld=>?_);clear hK K;refine kh 14 rfl (fun K hK=>?_);go_simp;refine HWI.mono ?_;rintro e w6 ⟨v6,rfl,RN,cV⟩;obtain ⟨p6,c6,rfl⟩:∃p6 c6,v6=.slice p6 N c6:=NN RN;have dL:Bw wr w6:=ak hdr cV;have Ff:=aa (show w6.cell? ⟨w.heap.size,1,none⟩=some (.slice (some ⟨gc,oc,none⟩) M cc)∧w6.cell? ⟨gc,oc+k*2,none⟩=some (.int .i64 (Y:Nat))∧w6.cell? ⟨gc,oc+k*2+1,none⟩=some (.string u) from ⟨ae dL x1,ae dL r0,ae dL r1⟩);have h60:=ae dL x0;have ajg:w.heap.size<wr.heap.size:=World.block_lt_of_cell? _ ⟨w.heap.size,0,none⟩ x0;have aqG:w.heap.size+1<wr.heap.size:=Nat.lt_of_lt_of_le (World.block_lt_of_cell? _ ⟨w.heap.size+1,0,none⟩ Fe.1) zy.size;have hf6:w6.frozen? ⟨w.heap.size,0,none⟩=false:=(dL.frozen (p:=⟨w.heap.size,0,none⟩) ajg).trans JU.o;have CQ:=aa (show (w6.setCell ⟨w.heap.size,0,none⟩ (.slice p6 N c6)).cell? ⟨w.heap.size,1,none⟩=some (.slice (some ⟨gc,oc,none⟩) M cc)∧(w6.setCell ⟨w.heap.size,0,none⟩ (.slice p6 N c6)).cell? ⟨gc,oc+k*2,none⟩=some (.int .i64 (Y:Nat))∧(w6.setCell ⟨w.heap.size,0,none⟩ (.slice p6 N c6)).cell? ⟨gc,oc+k*2+1,none⟩=some (.string u) from
     ⟨((sB.below dL).qw _).2.1,(av _ _ _ _).cell Ff.2.1 (fun e=>HGC (by injection e)),(av _ _ _ _).cell Ff.2.2 (fun e=>HGC (by injection e))⟩)
    have ajh:=aa ((sB.below dL).qw (.slice p6 N c6));have aji:=aa (show (w6.setCell ⟨w.heap.size,0,none⟩ (.slice p6 N c6)).frozen? ⟨w.heap.size,0,none⟩=false by simpa using hf6);have ajj:=aa (show w5.grownBy (w6.setCell ⟨w.heap.size,0,none⟩ (.slice p6 N c6)) (some w.heap.size) from aW zy (aW (aS dL _) (av _ _ _ _)));have Ah:=aa (show dw (mask (fun q=>F q∧q≠w.heap.size∧q≠w.heap.size+1) (w6.setCell ⟨w.heap.size,0,none⟩ (.slice p6 N c6))) (.slice p6 N c6) 1 kX (s.set Y u) from
     (ou (F:=fun q=>F q∧q≠w.heap.size∧q≠w.heap.size+1) jd (by rw[List.length_set];exact Ml) RN (fun q hq=>by
      have:=kZ RN hq;simp at this;exact ⟨xH q (by omega),by omega,by omega⟩)).keep (fun a v hv=>by
       obtain ⟨⟨h0,h1,h2⟩,h3⟩:=aq.1 hv;exact aq.2 ⟨⟨h0,h1,h2⟩,(av _ _ _ _).cell h3 (fun e=>h1 (by injection e))⟩))
    have ajk:=aa (show (s.set Y u).length=N by rw[List.length_set];exact Ml);clear RN cV dL hHeld;go_simp;refine hK.out _ _ Ff (fun hHeld=>?_);clear hK K;refine cB 15 42 (.pointer (some ⟨w.heap.size,0,none⟩)) rfl rfl hHeld ?_;simp only[aD];refine kh 16 rfl (fun K hK=>?_);go_simp;refine hK.out _ _ CQ (fun hHeld=>?_);clear hK K hHeld adm;refine wpAnyH_done (by kernel_rfl) ?_ _;go_wp2_with fail;go_roundw
    case rel=>exact ⟨k+1,p6,c6,s.set Y u,by omega,by go_num,ajk.o,ajh.o,aji.o,Ah.o,fX.o,ajj.o⟩
    case measure=>simp[intOf];omega
theorem RO:(prog.info? 47).map (fun i=>(i.zero,i.size,i.bytes))=some (some (.agg #[.int .i64 0,.string ⟨#[]⟩]),2,24):=by kernel_rfl
theorem Ke (cache:List fq) (x:fq) (W:World) (p:Option Addr) (n c:Nat) (h:dw W (.slice p n c) 2 ly cache) (hn:cache.length=n) (hl:n≤100000):∃v1 W1 g cap W2,
 (Builtin.append_ #[23,23] 23 #[.slice (some ⟨W.heap.size,0,none⟩) 0 0,.slice p n c]).run prog (W.alloc (.cells #[] 47))=.ok v1 W1 ∧
 (Builtin.append_ #[23,23] 23 #[v1,.slice (some ⟨W1.heap.size,0,none⟩) 1 1]).run prog (W1.alloc (.cells #[.int .i64 x.1,.string x.2] 47))=.ok (.slice (some ⟨g,0,none⟩) (n+1) cap) W2 ∧
 W2.ownsRow W.heap.size 47 2 (.slice (some ⟨g,0,none⟩) (n+1) cap) (n+1) (bk ly (cache++[x]))∧Bw W W1∧Bw W W2:=by
 subst hn;obtain ⟨p',c',e,_,_,hc,jh⟩:=h.src l6 uz (by decide);injection e with e1 e2 e3;subst e1;subst e3;obtain ⟨i0,iM,hz0,hz1,hz2⟩:=info_parts RO;obtain ⟨v1,W1,r1,o1,g1⟩:=dM (P:=prog) (W.alloc (.cells #[] 47)) W.heap.size 23 23 47 i0 _ 2 24 underlying23 iM hz0 hz1 hz2 rfl (by decide) _ 0 [] (World.ownsRow_made W #[] 0 aT (by unfold maxLen;omega) rfl) p cache.length c _ (jh.stays (ar)) hc (by unfold maxLen;omega) (by omega) (by simp);rw[List.nil_append,Nat.zero_add] at o1;have hb1:Bw W W1:=fy (il g1) aT (fun k hk=>by simp[Value.ownBlock] at hk;omega);obtain ⟨g,cap,W2,r2,hp⟩:=eV (P:=prog) 23 47 i0 _ 2 24 underlying23 iM hz0 hz1 hz2 rfl (by decide) (by decide) W1 W.heap.size cache.length v1 (bk ly cache) (ly x) o1 rfl (uz x) (by omega) hb1.size;have ho:=hp.row;rw[fC] at ho;exact ⟨v1,W1,g,cap,W2,r1,r2,ho,hb1,hb1.trans hp.below⟩
theorem iH {v0 v1 v2 v3 v4:Value} (h:bN (mask (fun q=>F q∧q≠b) W) d vk vc vp):bN (mask F (((((W.setCell ⟨b,0,none⟩ v0).setCell ⟨b,1,none⟩ v1).setCell ⟨b,2,none⟩ v2).setCell ⟨b,3,none⟩ v3).setCell ⟨b,4,none⟩ v4)) d vk vc vp:=
 h.keeps (fun a u hu=>by
  obtain ⟨⟨h1,h2⟩,h3⟩:=aq.1 hu;have hne:∀c,c=b→some a.block≠some c:=fun c hc e=>by injection e with e;exact h2 (e.trans hc)
  exact aq.2 ⟨h1,(av _ _ _ _).cell ((av _ _ _ _).cell ((av _ _ _ _).cell ((av _ _ _ _).cell ((av _ _ _ _).cell h3 (hne _ rfl)) (hne _ rfl)) (hne _ rfl)) (hne _ rfl)) (hne _ rfl)⟩)
theorem NP (h:fZ d=false):cF d pos s=(iU,1):=by unfold cF;rw[if_pos h]
theorem GV (h:fZ d=true) (h1:d.dead=true):cF d pos s=(d,90):=by unfold cF;rw[if_neg (by rw[h];simp),if_pos h1]
theorem Ai (h:fZ d=true) (h1:d.dead=false) (h2:pos<0∨(d.kept.length:Int)≤pos∨¬s.size=32∨20000≤d.cache.length):cF d pos s=(d,1):=by unfold cF;rw[if_neg (by rw[h];simp),if_neg (by rw[h1];simp),if_pos h2]
theorem GW (h:fZ d=true) (h1:d.dead=false) (h2:¬(pos<0∨(d.kept.length:Int)≤pos∨¬s.size=32∨20000≤d.cache.length)) (h3:d.ah=0):cF d pos s=(yz {d with cache:=d.cache++[(pos,s)]} d.keep,90):=by unfold cF;rw[if_neg (by rw[h];simp),if_neg (by rw[h1];simp),if_neg h2,if_pos h3]
theorem GX (h:fZ d=true) (h1:d.dead=false) (h2:¬(pos<0∨(d.kept.length:Int)≤pos∨¬s.size=32∨20000≤d.cache.length)) (h3:0<d.ah):cF d pos s=({d with cache:=d.cache++[(pos,s)],ah:=d.ah-1},0):=by unfold cF;rw[if_neg (by rw[h];simp),if_neg (by rw[h1];simp),if_neg h2,if_neg (by omega),if_pos h3]
theorem xI (h:fZ d=true) (h1:d.dead=false) (h2:¬(pos<0∨(d.kept.length:Int)≤pos∨¬s.size=32∨20000≤d.cache.length)) (h3:d.ah<0):cF d pos s=({d with cache:=d.cache++[(pos,s)]},0):=by unfold cF;rw[if_neg (by rw[h];simp),if_neg (by rw[h1];simp),if_neg h2,if_neg (by omega),if_neg (by omega)]
theorem eH.zw (h:eH W b vk vc vf vp vd) (u:Value):eH (W.setCell ⟨b,1,none⟩ u) b vk u vf vp vd:=by
 obtain ⟨h0,h1,h2,h3,h4⟩:=h;have go:∀(j:Nat) (u v:Value),1≠j→W.cell? ⟨b,j,none⟩=some u→(W.setCell ⟨b,1,none⟩ v).cell? ⟨b,j,none⟩=some u:=fun j u v xz hu=>by rw[World.cell?_setCell_other _ _ _ _ (fun e=>xz (by injection e)),hu]
 exact ⟨go 0 _ _ (by decide) h0,World.cell?_setCell_same _ _ _ h1,go 2 _ _ (by decide) h2,go 3 _ _ (by decide) h3,go 4 _ _ (by decide) h4⟩
theorem eH.yt (h:eH W b vk vc vf vp vd) (u:Value):eH (W.setCell ⟨b,2,none⟩ u) b vk vc u vp vd:=by
 obtain ⟨h0,h1,h2,h3,h4⟩:=h;have go:∀(j:Nat) (u v:Value),2≠j→W.cell? ⟨b,j,none⟩=some u→(W.setCell ⟨b,2,none⟩ v).cell? ⟨b,j,none⟩=some u:=fun j u v xz hu=>by rw[World.cell?_setCell_other _ _ _ _ (fun e=>xz (by injection e)),hu]
 exact ⟨go 0 _ _ (by decide) h0,go 1 _ _ (by decide) h1,World.cell?_setCell_same _ _ _ h2,go 3 _ _ (by decide) h3,go 4 _ _ (by decide) h4⟩
def Aj (F:Nat→Prop) (w:World) (r:aO×Int) (e:Ending) (w':World):Prop:=∃vk vc vp,e=.returned (.tuple #[ew r.1 vk vc vp,.int .i64 r.2])∧bN (mask F w') r.1 vk vc vp∧Bw w w'
theorem GY (d:aO) (pos:Int) (s:ByteArray) (vk vc vp:Value) (w:World) (F:Nat→Prop) (hF:∀q,w.heap.size≤q→F q) (hm:bN (mask F w) d vk vc vp) (tG:aQ pos) (hs:s.size≤maxLen):Calls prog 92 #[ew d vk vc vp,.int .i64 pos,.string s] w (Aj F w (cF d pos s)):=by
 have h:bN w d vk vc vp:=hm.keeps nE;have HMF:=aa hm;clear hm;have xH:=aa hF;clear hF;have ajl:=aa tG;have Vv:=aa hs;clear tG;have eJ:=aa (fun W (hb:Bw w W)=>vN d vk vc vp W (h.below hb));have En:=aa (fun (W:World) (G:Nat→Prop) (hG:∀q,W.heap.size≤q→G q) (c:List fq) (vc':Value) (hd:bN (mask G W) {d with cache:=c} vk vc' vp)=>RM {d with cache:=c} d.keep vk vc' vp vp W G hG hd (hd.keep.keep nE));have Qm:=aa (fun W (hb:Bw w W)=>show bN (mask (fun q=>F q∧q≠w.heap.size+1) W) d vk vc vp from HMF.keeps (aC hb (fun q hq hf=>⟨hf,by omega⟩)));have Mm:=aa (fun W (hb:Bw w W)=>show dw W vc 2 ly d.cache from h.cache.keep (af hb));obtain ⟨pk,ck,rfl,a1,a2⟩:=h.kept.slice;obtain ⟨pc,cc,rfl,b1,b2⟩:=h.cache.slice;obtain ⟨pp,cp,rfl,p1,p2⟩:=h.keep.slice;obtain ⟨m,hm⟩:=aG (fZ d);have yN:=aa (gu d);rw[hm] at eJ yN;have HM:=aa hm;have fJ:=aa h.bd;obtain ⟨r,hr⟩:=aG (cF d pos s);have HR:=aa hr;rw[hr];obtain ⟨kept,cache,ah,keep,dead⟩:=d;have lF:aQ ah:=h.bd.ah;simp only at a1 b1 yN En Mm p1;unfold ew at eJ En ⊢;simp only at eJ En ⊢;obtain ⟨N,hN⟩:=aG kept.length;obtain ⟨M,hM⟩:=aG cache.length;obtain ⟨L,hL⟩:=aG keep.length;rw[hN,hM,hL] at eJ;rw[hN,hL] at En;rw[hM] at Mm;rw[hN,hM] at yN;rw[hN,hM,hL];rw[hN] at a1;rw[hM] at b1;rw[hL] at p1;have HN:=aa hN;have rZ:=aa hM;have Kc:=aa hL;rw[hN,hM,hL] at Qm;have lN:=fG (n:=N) a2;have lM:=fG (n:=M) b2;have lS:=fG (n:=s.size) hs;unfold aQ at lF;clear h hN hM hL a1 a2 b1 b2 p1 p2 hm hr hs;obtain ⟨W1,hW1⟩:=aG ((w.alloc (.cells #[.slice pk N ck,.slice pc M cc,.int .i64 ah,.slice pp L cp,.bool dead] 26)).alloc (.cells #[.slice none 0 0,.slice none 0 0,.int .i64 0,.slice none 0 0,.bool false] 26));have aY:=aa (show Bw w W1 by rw[← hW1];exact (ar).alloc (by simp) _);have aU:=aa (show eH W1 w.heap.size (.slice pk N ck) (.slice pc M cc) (.int .i64 ah) (.slice pp L cp) (.bool dead) by rw[← hW1];exact (eH.new w _ _ _ _ _ _).below (ar));have JM:=aa (show eH W1 (w.heap.size+1) (.slice none 0 0) (.slice none 0 0) (.int .i64 0) (.slice none 0 0) (.bool false) by
  rw[← hW1];have:=eH.new (w.alloc (.cells #[.slice pk N ck,.slice pc M cc,.int .i64 ah,.slice pp L cp,.bool dead] 26)) (.slice none 0 0) (.slice none 0 0) (.int .i64 0) (.slice none 0 0) (.bool false) 26;rw[show (w.alloc (.cells #[.slice pk N ck,.slice pc M cc,.int .i64 ah,.slice pp L cp,.bool dead] 26)).heap.size=w.heap.size+1 by simp] at this;exact this)
 have sA:=aa (show ∀b j,w.heap.size≤b→b≤w.heap.size+1→W1.frozen? ⟨b,j,none⟩=false by
  rw[← hW1];intro b j hb1 hb2;rcases (show b=w.heap.size∨b=w.heap.size+1 by omega) with e|e <;> subst e <;> simp)
 have YM:=aa (show w.heap.size+1<W1.heap.size from World.block_lt_of_cell? _ ⟨w.heap.size+1,0,none⟩ JM.1);have adk:=aa (show w.heap.size<W1.heap.size from World.block_lt_of_cell? _ ⟨w.heap.size,0,none⟩ aU.1);have ee:=aa hW1;clear hW1;go_enter func92,ntmps92;go_upto_region 1 with fail;rw[ee.o];obtain ⟨x0,x1,x2,x3,x4⟩:=aU.o;cases m with
 |false=>have HE:=aa (HR.symm.trans (NP HM));clear x0 x1 x2 x3 x4;obtain ⟨x0,x1,x2,x3,x4⟩:=aU.o;go_wp2_with (go_at_call 49;(refine (eJ.o _ aY.o).mono ?_);rintro e w5 ⟨rfl,aR⟩;have bp:=bh aY aR;have fK:=aa (aU.o.below aR);have Fe:=aa (JM.o.below aR);obtain ⟨x0,x1,x2,x3,x4⟩:=fK.o;obtain ⟨y0,y1,y2,y3,y4⟩:=Fe.o;have Em:=aa (fun b j (g1:w.heap.size≤b) (g2:b≤w.heap.size+1)=>show w5.frozen? ⟨b,j,none⟩=false from (aR.frozen (p:=⟨b,j,none⟩) (show b<W1.heap.size from Nat.lt_of_le_of_lt g2 YM.o)).trans (sA.o b j g1 g2));have f0:=Em.o (w.heap.size+1) 0 (Nat.le_succ _) aT;have f1:=Em.o (w.heap.size+1) 1 (Nat.le_succ _) aT;have f2:=Em.o (w.heap.size+1) 2 (Nat.le_succ _) aT;have f3:=Em.o (w.heap.size+1) 3 (Nat.le_succ _) aT;have f4:=Em.o (w.heap.size+1) 4 (Nat.le_succ _) aT;clear aR);obtain ⟨q0,q1,q2,q3,q4⟩:=Fe.set (vk':=.slice none 0 0) (vc':=.slice none 0 0) (vf':=.int .i64 0) (vp':=.slice none 0 0) (vd':=.bool false);refine au (v:=.tuple #[.agg #[.slice none 0 0,.slice none 0 0,.int .i64 0,.slice none 0 0,.bool false],.int .i64 1]) ⟨.slice none 0 0,.slice none 0 0,.slice none 0 0,by rw[HE.o];rfl,by rw[HE.o];exact ox _,dY bp (Nat.le_succ _)⟩ ?_;simp[results,results92,go_sem,q0,q1,q2,q3,q4]
 |true=>
  have uH:=aa (yN.1 rfl);cases dead with
  |true=>have HE:=aa (HR.symm.trans (GV HM rfl));clear x0 x1 x2 x3 x4;obtain ⟨x0,x1,x2,x3,x4⟩:=aU.o;go_wp2_with (go_at_call 49;(refine (eJ.o _ aY.o).mono ?_);rintro e w5 ⟨rfl,aR⟩;have bp:=bh aY aR;have fK:=aa (aU.o.below aR);have Fe:=aa (JM.o.below aR);obtain ⟨x0,x1,x2,x3,x4⟩:=fK.o;obtain ⟨y0,y1,y2,y3,y4⟩:=Fe.o;have Em:=aa (fun b j (g1:w.heap.size≤b) (g2:b≤w.heap.size+1)=>show w5.frozen? ⟨b,j,none⟩=false from (aR.frozen (p:=⟨b,j,none⟩) (show b<W1.heap.size from Nat.lt_of_le_of_lt g2 YM.o)).trans (sA.o b j g1 g2));have f0:=Em.o (w.heap.size+1) 0 (Nat.le_succ _) aT;have f1:=Em.o (w.heap.size+1) 1 (Nat.le_succ _) aT;have f2:=Em.o (w.heap.size+1) 2 (Nat.le_succ _) aT;have f3:=Em.o (w.heap.size+1) 3 (Nat.le_succ _) aT;have f4:=Em.o (w.heap.size+1) 4 (Nat.le_succ _) aT;clear aR);obtain ⟨q0,q1,q2,q3,q4⟩:=Fe.set (vk':=.slice pk N ck) (vc':=.slice pc M cc) (vf':=.int .i64 ah) (vp':=.slice pp L cp) (vd':=.bool true);refine au (v:=.tuple #[.agg #[.slice pk N ck,.slice pc M cc,.int .i64 ah,.slice pp L cp,.bool true],.int .i64 90]) ⟨.slice pk N ck,.slice pc M cc,.slice pp L cp,by rw[HE.o];unfold ew;simp only,by rw[HE.o];exact iH (Qm _ bp),dY bp (Nat.le_succ _)⟩ ?_;simp[results,results92,go_sem,q0,q1,q2,q3,q4]
  |false=>
  go_upto_region 5 with (go_at_call 49;(refine (eJ.o _ aY.o).mono ?_);rintro e w5 ⟨rfl,aR⟩;have bp:=bh aY aR;have fK:=aa (aU.o.below aR);have Fe:=aa (JM.o.below aR);obtain ⟨x0,x1,x2,x3,x4⟩:=fK.o;obtain ⟨y0,y1,y2,y3,y4⟩:=Fe.o;have Em:=aa (fun b j (g1:w.heap.size≤b) (g2:b≤w.heap.size+1)=>show w5.frozen? ⟨b,j,none⟩=false from (aR.frozen (p:=⟨b,j,none⟩) (show b<W1.heap.size from Nat.lt_of_le_of_lt g2 YM.o)).trans (sA.o b j g1 g2));have f0:=Em.o (w.heap.size+1) 0 (Nat.le_succ _) aT;have f1:=Em.o (w.heap.size+1) 1 (Nat.le_succ _) aT;have f2:=Em.o (w.heap.size+1) 2 (Nat.le_succ _) aT;have f3:=Em.o (w.heap.size+1) 3 (Nat.le_succ _) aT;have f4:=Em.o (w.heap.size+1) 4 (Nat.le_succ _) aT;clear aR);by_cases kN:pos<0∨(N:Int)≤pos∨¬s.size=32∨20000≤M
  case pos=>
   have HE:=aa (HR.symm.trans (Ai HM rfl (by rw[HN.o,rZ.o];exact kN)));have hc:pos<0∨(¬pos<0∧(N:Int)≤pos)∨(¬pos<0∧¬(N:Int)≤pos∧¬(s.size:Int)=32)∨(¬pos<0∧¬(N:Int)≤pos∧(s.size:Int)=32∧(20000:Int)≤M):=by omega
   clear kN;rcases hc with c1|⟨c1,c2⟩|⟨c1,c2,c3⟩|⟨c1,c2,c3,c4⟩
   ·have d0:decide (pos<0)=true:=by simp;omega
    go_wp2_with fail;obtain ⟨q0,q1,q2,q3,q4⟩:=Fe.set (vk':=.slice pk N ck) (vc':=.slice pc M cc) (vf':=.int .i64 ah) (vp':=.slice pp L cp) (vd':=.bool false);refine au (v:=.tuple #[.agg #[.slice pk N ck,.slice pc M cc,.int .i64 ah,.slice pp L cp,.bool false],.int .i64 1]) ⟨.slice pk N ck,.slice pc M cc,.slice pp L cp,by rw[HE.o];unfold ew;simp only,by rw[HE.o];exact iH (Qm _ bp),dY bp (Nat.le_succ _)⟩ ?_;simp[results,results92,go_sem,q0,q1,q2,q3,q4]
   ·have d0:decide (pos<0)=false:=by simp;omega
    have d1:decide ((N:Int)≤pos)=true:=by simp;omega
    have d7:decide (pos≥(N:Int))=true:=by simp;omega
    go_wp2_with fail;obtain ⟨q0,q1,q2,q3,q4⟩:=Fe.set (vk':=.slice pk N ck) (vc':=.slice pc M cc) (vf':=.int .i64 ah) (vp':=.slice pp L cp) (vd':=.bool false);refine au (v:=.tuple #[.agg #[.slice pk N ck,.slice pc M cc,.int .i64 ah,.slice pp L cp,.bool false],.int .i64 1]) ⟨.slice pk N ck,.slice pc M cc,.slice pp L cp,by rw[HE.o];unfold ew;simp only,by rw[HE.o];exact iH (Qm _ bp),dY bp (Nat.le_succ _)⟩ ?_;simp[results,results92,go_sem,q0,q1,q2,q3,q4]
   ·have d0:decide (pos<0)=false:=by simp;omega
    have d1:decide ((N:Int)≤pos)=false:=by simp;omega
    have d7:decide (pos≥(N:Int))=false:=by simp;omega
    have d8:¬s.size=32:=(by omega);go_wp2_with fail;obtain ⟨q0,q1,q2,q3,q4⟩:=Fe.set (vk':=.slice pk N ck) (vc':=.slice pc M cc) (vf':=.int .i64 ah) (vp':=.slice pp L cp) (vd':=.bool false);refine au (v:=.tuple #[.agg #[.slice pk N ck,.slice pc M cc,.int .i64 ah,.slice pp L cp,.bool false],.int .i64 1]) ⟨.slice pk N ck,.slice pc M cc,.slice pp L cp,by rw[HE.o];unfold ew;simp only,by rw[HE.o];exact iH (Qm _ bp),dY bp (Nat.le_succ _)⟩ ?_;simp[results,results92,go_sem,q0,q1,q2,q3,q4]
   ·have d0:decide (pos<0)=false:=by simp;omega
    have d1:decide ((N:Int)≤pos)=false:=by simp;omega
    have d2:decide ((20000:Int)≤M)=true:=by simp;omega
    have d7:decide (pos≥(N:Int))=false:=by simp;omega
    have d8:s.size=32:=(by omega);have d9:20000≤M:=by omega
    go_wp2_with fail;obtain ⟨q0,q1,q2,q3,q4⟩:=Fe.set (vk':=.slice pk N ck) (vc':=.slice pc M cc) (vf':=.int .i64 ah) (vp':=.slice pp L cp) (vd':=.bool false);refine au (v:=.tuple #[.agg #[.slice pk N ck,.slice pc M cc,.int .i64 ah,.slice pp L cp,.bool false],.int .i64 1]) ⟨.slice pk N ck,.slice pc M cc,.slice pp L cp,by rw[HE.o];unfold ew;simp only,by rw[HE.o];exact iH (Qm _ bp),dY bp (Nat.le_succ _)⟩ ?_;simp[results,results92,go_sem,q0,q1,q2,q3,q4]
  case neg=>
  have am0:=aa kN;have YN:=aa (show ¬(pos<0∨(kept.length:Int)≤pos∨¬s.size=32∨20000≤cache.length) by rw[HN.o,rZ.o];exact kN);have c1:¬pos<0:=by omega
  have c2:¬(N:Int)≤pos:=by omega
  have c3:s.size=32:=by omega
  have c3':(s.size:Int)=32:=by omega
  have c4:¬(20000:Int)≤M:=by omega
  have c4':¬20000≤M:=by omega
  have d0:decide (pos<0)=false:=by simp;omega
  have d1:decide ((N:Int)≤pos)=false:=by simp;omega
  have d2:decide ((20000:Int)≤(M:Int))=false:=by simp;omega
  clear kN;obtain ⟨v1,W6,g,cap,w7,r1,r2,Vw,cV,dL⟩:=Ke cache (pos,s) w5 pc M cc (Mm w5 bp) rZ (by omega);have adp:=aa r1;have RH:=aa r2;have bU:=aa Vw;have kS:=aa (fK.below cV);have lj:=aa (fK.below dL);have HY7:=aa (Fe.below dL);have fw:=bh bp dL;have Xz:=aa (fun b j (g1:w.heap.size≤b) (g2:b≤w.heap.size+1)=>show w7.frozen? ⟨b,j,none⟩=false from (dL.frozen (p:=⟨b,j,none⟩) (show b<w5.heap.size from Nat.lt_of_le_of_lt g2 (World.block_lt_of_cell? _ ⟨w.heap.size+1,0,none⟩ y0))).trans (Em b j g1 g2));have YO:=aa (show w.heap.size+1<w5.heap.size from World.block_lt_of_cell? _ ⟨w.heap.size+1,0,none⟩ y0);have hg1:w.heap.size+1<g:=Nat.lt_of_lt_of_le YO (kZ Vw rfl);have LV:=aa hg1;have vS:=aa (show eH (w7.setCell ⟨w.heap.size,1,none⟩ (.slice (some ⟨g,0,none⟩) (M+1) cap)) w.heap.size (.slice pk N ck) (.slice (some ⟨g,0,none⟩) (M+1) cap) (.int .i64 ah) (.slice pp L cp) (.bool false) from lj.zw _);have HY8:=aa (show eH (w7.setCell ⟨w.heap.size,1,none⟩ (.slice (some ⟨g,0,none⟩) (M+1) cap)) (w.heap.size+1) (.slice none 0 0) (.slice none 0 0) (.int .i64 0) (.slice none 0 0) (.bool false) from HY7.far (by omega) _);have gI:=aa (fw.setCell (p:=⟨w.heap.size,1,none⟩) aT (.slice (some ⟨g,0,none⟩) (M+1) cap));have Ah:=aa (show (w7.setCell ⟨w.heap.size,1,none⟩ (.slice (some ⟨g,0,none⟩) (M+1) cap)).ownsRow w5.heap.size 47 2 (.slice (some ⟨g,0,none⟩) (M+1) cap) (M+1) (bk ly (cache++[(pos,s)])) from ownsRow_setCell_other Vw (fun e=>by simp[Value.ownBlock] at e;omega) _);have Vx:=aa (fun b j (g1:w.heap.size≤b) (g2:b≤w.heap.size+1)=>show (w7.setCell ⟨w.heap.size,1,none⟩ (.slice (some ⟨g,0,none⟩) (M+1) cap)).frozen? ⟨b,j,none⟩=false by simpa using Xz.o b j g1 g2);have CQ:=aa (show w.heap.size+1<(w7.setCell ⟨w.heap.size,1,none⟩ (.slice (some ⟨g,0,none⟩) (M+1) cap)).heap.size from World.block_lt_of_cell? _ ⟨w.heap.size+1,0,none⟩ HY8.1);have rB:=Xz.o w.heap.size 1 aT (Nat.le_succ _);have z1:=ae (((Below.refl _ w5).alloc (Nat.le_refl w5.heap.size) (.cells #[] 47))) x1;obtain ⟨x0,x1,x2,x3,x4⟩:=lj.o;clear r1 r2 Vw cV dL hg1 y0 y1 y2 y3 y4 f0 f1 f2 f3 f4;go_upto_region 8 with (at_builtin;first|refine Lib.wpList_append_run _ rfl _ _ _ _ rfl _ _ rfl rfl _ _ adp.o ?_|refine Lib.wpList_append_run _ rfl _ _ _ _ rfl _ _ rfl rfl _ _ RH.o ?_);obtain ⟨w8,XA⟩:=aG (w7.setCell ⟨w.heap.size,1,none⟩ (.slice (some ⟨g,0,none⟩) (M+1) cap));rw[XA] at vS HY8 gI Ah Vx CQ;have HW8:=aa XA;rw[XA];clear XA rB z1 x0 x1 x2 x3 x4;have Vy:=aa (show bN (mask (fun q=>F q∧q≠w.heap.size+1) w8) ⟨kept,cache++[(pos,s)],ah,keep,false⟩ (.slice pk N ck) (.slice (some ⟨g,0,none⟩) (M+1) cap) (.slice pp L cp) from
   ⟨(Qm w8 gI).kept,ou l6 (by rw[List.length_append,rZ.o];rfl) Ah (fun q hq=>by
    have h1:=kZ Ah hq;have h2:=YO.o;exact ⟨xH q (by omega),by omega⟩),(Qm w8 gI).keep,⟨fJ.kept,fun p hp=>by
     rcases List.mem_append.1 hp with h|h
     ·exact fJ.cache p h
     ·obtain rfl:=List.mem_singleton.1 h
      exact ⟨ajl,Vv⟩,fJ.ah⟩⟩)
  obtain ⟨x0,x1,x2,x3,x4⟩:=vS.o;obtain ⟨y0,y1,y2,y3,y4⟩:=HY8.o;have f0:=Vx.o (w.heap.size+1) 0 (Nat.le_succ _) aT;have f1:=Vx.o (w.heap.size+1) 1 (Nat.le_succ _) aT;have f2:=Vx.o (w.heap.size+1) 2 (Nat.le_succ _) aT;have f3:=Vx.o (w.heap.size+1) 3 (Nat.le_succ _) aT;have f4:=Vx.o (w.heap.size+1) 4 (Nat.le_succ _) aT;have fz:=Vx.o w.heap.size 2 aT (Nat.le_succ _);rcases (show ah=0∨0<ah∨ah<0 by omega) with hf|hf|hf
  ·subst hf
   have HE:=aa (HR.symm.trans (GW HM rfl YN rfl));obtain ⟨r1,hr1⟩:=aG (yz ⟨kept,cache++[(pos,s)],0,keep,false⟩ keep);simp only[hr1] at HE;have YP:=En.o w8 (fun q=>F q∧q≠w.heap.size+1) (fun q hq=>⟨xH q (Nat.le_trans gI.size hq),by have:=CQ.o;omega⟩) _ _ Vy.o;simp only[hr1] at YP;have M8:=aa YP;clear YP f0 f1 f2 f3 f4 fz hr1;go_wp2_with (go_at_call 142;(refine M8.o.mono ?_);rintro e w9 ⟨vk2,vc2,vp2,rfl,YQ,kn⟩;obtain ⟨XB,XC,rfl,_,_⟩:=YQ.kept.slice;obtain ⟨XD,XE,rfl,_,_⟩:=YQ.cache.slice;obtain ⟨XF,Vz,rfl,_,_⟩:=YQ.keep.slice;unfold ew;have HD9:=aa YQ;have ke:=bh gI kn;have XG:=aa (HY8.o.below kn);obtain ⟨y0,y1,y2,y3,y4⟩:=XG.o;have RP:=aa (fun b j (g1:w.heap.size≤b) (g2:b≤w.heap.size+1)=>show w9.frozen? ⟨b,j,none⟩=false from (kn.frozen (p:=⟨b,j,none⟩) (show b<w8.heap.size from Nat.lt_of_le_of_lt g2 CQ.o)).trans (Vx.o b j g1 g2));have f0:=RP.o (w.heap.size+1) 0 (Nat.le_succ _) aT;have f1:=RP.o (w.heap.size+1) 1 (Nat.le_succ _) aT;have f2:=RP.o (w.heap.size+1) 2 (Nat.le_succ _) aT;have f3:=RP.o (w.heap.size+1) 3 (Nat.le_succ _) aT;have f4:=RP.o (w.heap.size+1) 4 (Nat.le_succ _) aT;clear YQ kn);obtain ⟨q0,q1,q2,q3,q4⟩:=XG.set (vk':=.slice XB r1.kept.length XC) (vc':=.slice XD r1.cache.length XE) (vf':=.int .i64 r1.ah) (vp':=.slice XF r1.keep.length Vz) (vd':=.bool r1.dead);refine au (v:=.tuple #[.agg #[.slice XB r1.kept.length XC,.slice XD r1.cache.length XE,.int .i64 r1.ah,.slice XF r1.keep.length Vz,.bool r1.dead],.int .i64 90]) ⟨.slice XB r1.kept.length XC,.slice XD r1.cache.length XE,.slice XF r1.keep.length Vz,by rw[HE.o];rfl,by rw[HE.o];exact iH HD9,dY ke (Nat.le_succ _)⟩ ?_;simp[results,results92,go_sem,q0,q1,q2,q3,q4]
  ·have HE:=aa (HR.symm.trans (GX HM rfl YN hf))
   simp only at HE;have d3:decide (ah=0)=false:=by simp;omega
   have d4:¬ah=0:=(by omega);have d5:decide (0<ah)=true:=by simp;omega
   have NQ:=aa (vS.yt (.int .i64 (ah-1)));have XG:=aa (HY8.far (b':=w.heap.size) (j:=2) (by omega) (.int .i64 (ah-1)));have ke:=aa (gI.setCell (p:=⟨w.heap.size,2,none⟩) aT (.int .i64 (ah-1)));have RP:=aa (fun b j (g1:w.heap.size≤b) (g2:b≤w.heap.size+1)=>show (w8.setCell ⟨w.heap.size,2,none⟩ (.int .i64 (ah-1))).frozen? ⟨b,j,none⟩=false by simpa using Vx.o b j g1 g2);have HD9:=aa (show bN (mask (fun q=>F q∧q≠w.heap.size+1) (w8.setCell ⟨w.heap.size,2,none⟩ (.int .i64 (ah-1)))) ⟨kept,cache++[(pos,s)],ah-1,keep,false⟩ (.slice pk N ck) (.slice (some ⟨g,0,none⟩) (M+1) cap) (.slice pp L cp) from
    ⟨(Qm _ ke).kept,ou l6 (by rw[List.length_append,rZ.o];rfl) (ownsRow_setCell_other Ah (fun e=>by have:=LV.o;simp[Value.ownBlock] at e;omega) _) (fun q hq=>by
    have h1:=kZ Ah hq;have h2:=YO.o;exact ⟨xH q (by omega),by omega⟩),(Qm _ ke).keep,⟨fJ.kept,Vy.bd.cache,by have:=fJ.ah;unfold aQ at this ⊢;simp only at this ⊢;omega⟩⟩)
   go_upto_region 12 with fail;clear x0 x1 x2 x3 x4 y0 y1 y2 y3 y4 f0 f1 f2 f3 f4 fz;obtain ⟨x0,x1,x2,x3,x4⟩:=NQ.o;obtain ⟨y0,y1,y2,y3,y4⟩:=XG.o;have f0:=RP.o (w.heap.size+1) 0 (Nat.le_succ _) aT;have f1:=RP.o (w.heap.size+1) 1 (Nat.le_succ _) aT;have f2:=RP.o (w.heap.size+1) 2 (Nat.le_succ _) aT;have f3:=RP.o (w.heap.size+1) 3 (Nat.le_succ _) aT;have f4:=RP.o (w.heap.size+1) 4 (Nat.le_succ _) aT;go_wp2_with fail;obtain ⟨q0,q1,q2,q3,q4⟩:=XG.set (vk':=.slice pk N ck) (vc':=.slice (some ⟨g,0,none⟩) (M+1) cap) (vf':=.int .i64 (ah-1)) (vp':=.slice pp L cp) (vd':=.bool false);refine au (v:=.tuple #[.agg #[.slice pk N ck,.slice (some ⟨g,0,none⟩) (M+1) cap,.int .i64 (ah-1),.slice pp L cp,.bool false],.int .i64 0]) ⟨.slice pk N ck,.slice (some ⟨g,0,none⟩) (M+1) cap,.slice pp L cp,by rw[HE.o];unfold ew;simp only,by rw[HE.o];exact iH HD9,dY ke (Nat.le_succ _)⟩ ?_;simp[results,results92,go_sem,q0,q1,q2,q3,q4]
  ·have HE:=aa (HR.symm.trans (xI HM rfl YN hf))
   simp only at HE;have d3:decide (ah=0)=false:=by simp;omega
   have d4:¬ah=0:=(by omega);have d5:decide (0<ah)=false:=by simp;omega
   go_wp2_with fail;obtain ⟨q0,q1,q2,q3,q4⟩:=HY8.set (vk':=.slice pk N ck) (vc':=.slice (some ⟨g,0,none⟩) (M+1) cap) (vf':=.int .i64 ah) (vp':=.slice pp L cp) (vd':=.bool false);refine au (v:=.tuple #[.agg #[.slice pk N ck,.slice (some ⟨g,0,none⟩) (M+1) cap,.int .i64 ah,.slice pp L cp,.bool false],.int .i64 0]) ⟨.slice pk N ck,.slice (some ⟨g,0,none⟩) (M+1) cap,.slice pp L cp,by rw[HE.o];unfold ew;simp only,by rw[HE.o];exact iH Vy,dY gI (Nat.le_succ _)⟩ ?_;simp[results,results92,go_sem,q0,q1,q2,q3,q4]
def Ap (g:Nat) (W W':World):Prop:=∀b,b≠g→b<W.heap.size→W'.heap[b]?=W.heap[b]?
theorem Ap.cell {W':World} (h:Ap g W W') {a:Addr} (hv:W.cell? a=some v) (hg:a.block≠g):W'.cell? a=some v:=
 (World.cell?_of_block (h a.block hg (World.block_lt_of_cell? _ _ hv))).trans hv
theorem Ap.refl (g:Nat) (W:World):Ap g W W:=fun _ _ _=>rfl
theorem Ap.step {D:Nat} {W1 W2 w2:World} {r:Value} {c:Nat} (h:Ap g W W1) (hs:W.heap.size≤W1.heap.size) (hb:Bw W1 W2) (hD:W.heap.size≤D) (h2:Below D W2 w2):Ap g W (w2.setCell ⟨g,c,none⟩ r):=fun b hg hlt=>by rw[Below.heap_setCell _ _ _ b (fun e=>by simp only at e;omega),h2.block b (by omega),hb.block b (by omega),h b hg hlt]
theorem Er {D:Nat} {T:List (List aj)} {z:Int} (h:fH W B D g n T) (hc:W.cell? ⟨g,j,none⟩=some (.int .i64 z)):False:=by
 obtain ⟨rs,h1,h2,h3,h4,h5⟩:=h;obtain ⟨cur,hb,_,_,_,hs,ht⟩:=bl h3;have YK:cur[j]?=some (.int .i64 z):=by
  unfold World.cell? at hc;rw[hb] at hc
  simpa using hc
 have hj:j<cur.size:=(Array.getElem?_eq_some_iff.1 YK).1;have hrs:rs[j]?=some (.int .i64 z):=by rw[← ht,List.getElem?_take,if_pos (by omega),Array.getElem?_toList];exact YK
 obtain ⟨t,htj⟩:=fx (l:=T) (k:=j) (by have:=(List.getElem?_eq_some_iff.1 hrs).1;omega);rcases aJ (h4 j _ t hrs htj) with ⟨h,_⟩|⟨_,_,h⟩ <;> cases h
def adx (w w4:World) (n g N:Nat) (C:List ay) (i:Value) (wr:World):Prop:=
 ∃(k:Nat) (T:List (List aj)),k≤N∧i=.int .i64 k∧fH wr g w4.heap.size g n T∧(∀t∈T,t.length≤k)∧fY n (List.replicate n []) C=fY n T (C.drop k)∧Ap g w4 wr∧Bw w wr∧w4.heap.size≤wr.heap.size
theorem G7 (l:List dx) (c:Int) (v1:Value) (w:World) (h1:eQ w v1 l) (l1:bM l):Calls prog 51 #[v1,.int .i64 c] w (dg w l c):=by
 have HV:=aa h1;have xg:=aa l1;have uH:=aa (fun W (h:Bw w W)=>sZ l v1 W (h1.keep (af h)) l1);obtain ⟨p,cp,rfl,a1,a2,ha⟩:=h1;obtain ⟨nl,rM⟩:∃N,l.length=N:=⟨_,rfl⟩
 rw[rM] at a1 HV uH;rw[rM];clear ha a1 a2 l1 rM;by_cases h1:c<1
 ·have HF:=aa (xJ (l:=l) h1)
  go_enter func51,ntmps51;go_wp2_with fail;refine au (dg.no HF aH) ?_;simp[results,results51,go_sem]
 by_cases h2:(1000:Int)<c
 ·have HF:=aa (uJ (l:=l) h2)
  go_enter func51,ntmps51;go_wp2_with fail;refine au (dg.no HF aH) ?_;simp[results,results51,go_sem]
 cases hm:dP l with
 |false=>have HF:=aa (xK (c:=c) hm);have HM:=aa hm;clear hm;go_enter func51,ntmps51;go_wp2_with fail;refine (uH _ aH).mono ?_;rintro e w1 ⟨rfl,hb⟩;rw[HM.o];have HB:=aa hb;clear hb;go_wp2_with fail;refine au (dg.no HF HB) ?_;simp[results,results51,go_sem]
 |true=>
 obtain ⟨n,rfl⟩:∃n:Nat,c=n:=⟨c.toNat,by omega⟩
 have HN:=aa (show 1≤n∧n≤1000 by omega);have HF:=aa (Al HN.1 HN.2 hm);have HM:=aa hm;have BG:=aa (vM hm);have HVS:=aa (oP xg (dr.1 hm).2.2);clear hm;go_enter func51,ntmps51;go_wp2_with fail;refine (uH _ aH).mono ?_;rintro e w2 ⟨rfl,hb⟩;rw[HM.o];have bS:=aa hb;clear hb;obtain ⟨w3,jJ,lX,hb3⟩:=zU w2 n HN.2;obtain ⟨g,hg⟩:=aG w2.heap.size;rw[hg] at jJ lX hb3;have qi:=aa lX;have dF:=aa (show Bw w w3 from bS.trans (hb3.mono (by rw[← hg];exact bS.size)));have HG:=aa (show g<w3.heap.size from ((lX 0).choose_spec.2.2.1.lt g rfl).2);have HWG:=aa (show w.heap.size≤g by rw[← hg];exact bS.size);clear lX hb3 hg h1 h2;obtain ⟨C,hC⟩:=aG (aX l);have tk:=aa (show C.length≤600000 by rw[← hC];exact tC (fun _=>HVS));rw[hC] at HF BG;have HC:=aa hC;clear hC;go_wp2_with (go_at_call 35;(refine (Gf l _ _ (HV.o.keep (af dF.o)) xg.o).mono ?_);rintro e w4 ⟨v4,rfl,YR,hb4⟩;rw[HC.o] at YR;have HP:=aa YR;obtain ⟨pq,cq,rfl,b1,b2,QQ⟩:=YR;obtain ⟨N,hN⟩:=aG C.length;rw[hN] at b1 HP tk;rw[hN];have HNC:=aa hN;have HPA:=aa QQ;have fW:=aa hb4;have hlc:(N:Int)≤9223372036854775807:=(by unfold maxLen at b2;omega);clear hN QQ hb4 b1 b2);have pG:=aa (show fH w4 g w4.heap.size g n (List.replicate n []) from (qi _).below fW);have bp:=aa (ak dF fW);have Qj:=aa (show g<w4.heap.size from Nat.lt_of_lt_of_le HG fW.size);have HNI:=aa (fun (j:Nat) (z:Int)=>Er (j:=j) (z:=z) pG);clear jJ HV uH;go_loopw [8] (fun i wr=>adx w w4 n g N C i wr) (fun i _=>N-(intOf i).toNat)
 case atStart=>exact ⟨0,_,dO,rfl,pG,fun t ht=>by rw[List.mem_replicate] at ht;rw[ht.2];exact dO,by rw[List.drop_zero],Ap.refl _ _,bp,aT⟩
 case round=>
  obtain ⟨k,T,hk,rfl,Mr,hlt,htg,RS,hb,hsz⟩:=hrel;have Jq:=aa Mr;have Vj:=aa hlt;have YS:=aa htg;have G5:=aa RS;have zr:=aa hb;have mN:=aa hsz;clear Mr hlt htg RS hb hsz pG;by_cases hlt:k<N
  case neg=>
   obtain rfl:k=N:=by omega
   have Q1:decide ((k:Int)<(k:Int))=false:=(by simp);have Fc:=aa (show bX l n=if T.all dE=true then some T else none by
    rw[HF.o,YS.o,List.drop_of_length_le (by rw[HNC.o];exact aT)];rfl)
   have Uc:(n:Int)≤9223372036854775807:=by have:=HN.o;omega
   go_wp2_with fail;go_loopw [11] (fun i wr=>XI w w4.heap.size n g T i wr) (fun i _=>n-(intOf i).toNat)
   case atStart=>exact ⟨0,dO,rfl,Jq,fun j t hj=>by omega,zr⟩
   case round=>
    obtain ⟨j,hj,rfl,Mr,hall,hb⟩:=hrel;have Nk:=aa Mr;have pN:=aa hall;have T7:=aa hb;clear Mr hall hb;by_cases iZ:j<n
    case neg=>
     obtain rfl:j=n:=by omega
     have acT:decide ((j:Int)<(j:Int))=false:=(by simp);have HQ:=aa (show bX l j=some T by
      rw[Fc.o,if_pos];rw[List.all_eq_true];intro t ht;obtain ⟨i,hi⟩:=List.getElem?_of_mem ht;exact pN i t (by have:=(List.getElem?_eq_some_iff.1 hi).1;rw[Nk.o.len] at this;exact this) hi)
     go_wp2_with fail;refine au (dg.yes HQ (Nk.at HN.2) T7) ?_;simp[results,results51,go_sem]
    case pos=>
     have Gg:(j:Int)<(n:Int):=(by omega);have YT:=ux hj (show n≤1000000 by have:=HN.o;omega);obtain ⟨t,ht⟩:=fx (l:=T) (k:=j) (by rw[Nk.o.len];exact iZ);obtain ⟨r,hr,UL⟩:=Nk.one ht;have HU:=aa (fj UL);have HT:=aa ht;clear UL ht;cases vV:dE t with
     |false=>
      have Am:=aa vV;clear vV;have HQ:=aa (show bX l n=none by
       rw[Fc.o,if_neg];rw[List.all_eq_true];intro h;have:=h t (List.mem_of_getElem? HT);rw[Am.o] at this;exact absurd this (by simp))
      go_wp2_with (go_at_call 102;(refine (l9 t _ _ HU.o).mono ?_);rintro e w6 ⟨rfl,cV⟩;rw[Am.o];have cU:=aa cV;clear cV);refine au (dg.no HQ (ak T7 cU)) ?_;simp[results,results51,go_sem]
     |true=>
      have Am:=aa vV;clear vV;go_wp2_with (go_at_call 102;(refine (l9 t _ _ HU.o).mono ?_);rintro e w6 ⟨rfl,cV⟩;rw[Am.o];have cU:=aa cV;clear cV);go_roundw
      case rel=>exact ⟨j+1,by omega,by go_num,Nk.o.below cU.o,fun i x hi hx=>by
       by_cases e:i=j
       ·subst e;rw[HT.o] at hx;cases hx;exact Am.o
       ·exact pN.o i x (by omega) hx,ak T7.o cU.o⟩
      case measure=>first|exact dQ iZ|(have hm:=dQ iZ;rw[← YT] at hm;exact hm)
  case pos=>
   have fN:(k:Int)<(N:Int):=(by omega);have Ql:=ux hk (show N≤1000000 by have:=tk.o;omega);obtain ⟨⟨q1,q2⟩,ht⟩:∃t,C[k]?=some t:=⟨_,List.getElem?_eq_getElem (by rw[HNC.o];exact hlt)⟩
   have o1:=(BG.o _ (List.mem_of_getElem? ht)).1;simp only at o1;have Fh:=aa (Mq o1);obtain ⟨gp,op,rfl,y0,y1⟩:=HPA.o k _ ht;simp only at y0 y1;have Qf:gp≠g:=fun e=>by subst e;exact HNI _ _ y0
   have HGP:=aa (show gp<w4.heap.size∧True from ⟨by have:=World.block_lt_of_cell? _ _ y0;simpa using this,trivial⟩);replace y0:=G5.cell y0 Qf;replace y1:=G5.cell y1 Qf;obtain ⟨⟨ch,po,sz,pk⟩,hr⟩:∃r,bI q1=r:=⟨_,rfl⟩
   rw[hr] at Fh;obtain ⟨cn,rfl⟩:∃cn:Nat,ch=cn:=⟨ch.toNat,by have:=Fh.o;simp only at this;omega⟩
   have Jr:=aa (show JL q1=⟨cn,po,sz,pk⟩ by unfold JL;rw[if_pos o1];exact hr);have si:=aa ht;have Jl:=aa o1;have G6:=aa hr;have JM:=aa y1;have HGN:=aa Qf;clear ht o1 hr Qf;go_upto_region 9 with (go_at_call 36;(refine (zo q1 Fh.o.1 Fh.o.2.1 _).mono ?_);rintro e w5 ⟨rfl,aR⟩;rw[Jr.o,Jl.o];simp only[aB.agg];have RT:=aa aR;clear aR);obtain ⟨W6,rN⟩:=aG (w5.alloc (.cells #[.int .i64 cn,.int .i64 po,.int .i64 sz,.bool pk] 50));have cV:Bw w5 W6:=by rw[← rN];exact ar
   have cU:=aa (ak RT cV);have rH:=aa (show kT w5.heap.size cn po sz pk W6 by rw[← rN];exact ⟨by simp,by simp,by simp,by simp⟩);have kS:=aa (ae cU JM);rw[rN];clear rN cV y0 y1;have r0:=rH.1;by_cases QL:cn<n
   case neg=>
    have RU:(n:Int)≤(cn:Int):=(by omega);have HQ:=aa (show bX l n=none by
     rw[HF.o,YS.o,oT si.o,if_neg];unfold mf;rw[G6.o];simp only[Bool.and_eq_true,decide_eq_true_eq];omega)
    go_wp2_with fail;refine au (dg.no HQ (ak zr cU)) ?_;simp[results,results51,go_sem]
   case pos=>
   have RU:(cn:Int)<(n:Int):=(by omega);go_upto_region 11 with fail;clear r0;obtain ⟨L,hL⟩:=aG (cg sz);have rC:=aa hL;have fJ:=aa (show (-1000000:Int)≤sz∧sz≤1000000 by have:=Fh.o;simp only at this;omega);clear hL;obtain ⟨t,ht⟩:=fx (l:=T) (k:=cn) (by rw[Jq.o.len];exact QL);obtain ⟨r,GA,_⟩:=Jq.one ht;have c1:W6.drew.cell? ⟨g,cn,none⟩=some r:=ae (ak cU aH.drew) GA;have HTT:=aa ht;have Aq:=aa (show t.length≤1000000 by have:=Vj.o t (List.mem_of_getElem? ht);have:=tk.o;omega);have RV:=aa (CR (c:=cn) (u:=(po,L,q2,true)) Vj (List.mem_of_getElem? ht));have RX:=aa (show fY n (List.replicate n []) C=fY n (T.set cn (t++[(po,L,q2,true)])) (C.drop (k+1)) by
    rw[YS.o,oT si.o,if_pos (by unfold mf;rw[G6.o,Jl.o];simp only[Bool.true_and,decide_eq_true_eq];exact RU)];unfold sG fP qF;simp only[G6.o,rC.o,Int.toNat_natCast,ht,Option.getD_some])
   have kJ:=aa (iy (show Bw W6 W6.drew from aH.drew) ⟨rH.1,rH.2.1,rH.2.2.1,rH.2.2.2,kS⟩);have Js:=aa (show wr.heap.size≤w5.heap.size from RT.size);have Qn:=aa (show w5.heap.size≠g∧gp≠g from ⟨fun e=>by have h1:=Js.o;have h2:=mN.o;have h3:=Qj.o;omega,HGN⟩);clear ht GA;refine wp_region_held_drew (S:=fun w'=>w'.cell? ⟨w5.heap.size,0,none⟩=some (.int .i64 cn)∧w'.cell? ⟨w5.heap.size,1,none⟩=some (.int .i64 po)∧w'.cell? ⟨w5.heap.size,2,none⟩=some (.int .i64 sz)∧w'.cell? ⟨w5.heap.size,3,none⟩=some (.bool pk)∧w'.cell? ⟨gp,op+k*2+1,none⟩=some (.int .i64 q2)) (by kernel_rfl) kJ (fun hHeld=>?_);refine cB 0 46 (.slice (some ⟨g,0,none⟩) n n) rfl rfl hHeld ?_;simp only[aD];refine cB 1 47 (.pointer (some ⟨w5.heap.size,0,none⟩)) rfl rfl hHeld ?_;simp only[aD];refine cB 2 48 (.int .i64 cn) rfl rfl hHeld ?_;simp only[aD];refine cB 3 49 (.slice (some ⟨g,0,none⟩) n n) rfl rfl hHeld ?_;simp only[aD];refine cB 4 50 (.pointer (some ⟨w5.heap.size,0,none⟩)) rfl rfl hHeld ?_;simp only[aD];refine cB 5 51 (.int .i64 cn) rfl rfl hHeld ?_;simp only[aD];refine cB 6 52 (.pointer (some ⟨g,cn,none⟩)) rfl rfl hHeld ?_;simp only[aD];refine cB 8 54 (.pointer (some ⟨w5.heap.size,1,none⟩)) rfl rfl hHeld ?_;simp only[aD];refine cB 9 55 (.int .i64 po) rfl rfl hHeld ?_;simp only[aD];refine cB 10 56 (.agg #[.int .i64 cn,.int .i64 po,.int .i64 sz,.bool pk]) rfl rfl hHeld ?_;simp only[aD];refine cB 12 58 (.slice (some ⟨gp,op,none⟩) N cq) rfl rfl hHeld ?_;simp only[aD];refine cB 13 59 (.int .i64 k) rfl rfl hHeld ?_;simp only[aD];refine cB 14 60 (.pointer (some ⟨gp,op+k*2,none⟩)) rfl rfl hHeld ?_;simp only[aD];refine cB 15 61 (.pointer (some ⟨gp,op+k*2+1,none⟩)) rfl rfl hHeld ?_;simp only[aD];refine cB 16 62 (.int .i64 q2) rfl rfl hHeld ?_;simp only[aD];refine wpAnyH_ready (rs:=[7,11]) (by kernel_rfl) (by simp) ?_;refine AllReadyH.cons rfl (fun K hK=>?_) (AllReadyH.cons rfl (fun K hK=>?_) AllReadyH.nil)
   ·go_simp
    refine hK.out _ _ kJ.o (fun hHeld=>?_);clear hK K;refine kh 11 rfl (fun K hK=>?_);go_simp;refine (sY cn po sz L pk fJ.o.1 fJ.o.2 rC.o W6.drew).mono ?_;rintro e w7 ⟨rfl,dL⟩;have sj:=aa (iy dL kJ.o);obtain ⟨r2,c7,g9,c9,w9,hrun,vW,F6,Ao,kn,gO⟩:=vL wr w7 g w4.heap.size g n cn T t (po,L,q2,true) (ak (ak cU.o aH.drew) dL) Jq.o HTT.o Aq.o mN.o;obtain rfl:r2=r:=Option.some.inj (c7.symm.trans (ae dL c1));obtain ⟨tl,VB⟩:∃n,t.length+1=n:=⟨_,rfl⟩
    rw[VB] at hrun Ao;have zu:=aa (And.intro (gO _ _ Js.o sj.o.1) (And.intro (gO _ _ Js.o sj.o.2.1) (And.intro (gO _ _ Js.o sj.o.2.2.1) (And.intro (gO _ _ Js.o sj.o.2.2.2.1) ((kn.cell HGP.o.1).trans sj.o.2.2.2.2)))));have c8:(w7.alloc (.cells #[.int .i64 po,.int .i64 L,.int .i64 q2,.bool true] 52)).cell? ⟨g,cn,none⟩=some r2:=ae (ar) c7;have dJ:=aa hrun;have NS:=aa Ao;have Yr:=aa (And.intro vW F6);have CS:=aa (show Ap g w4 (w9.setCell ⟨g,cn,none⟩ (.slice (some ⟨g9,0,none⟩) tl c9)) from G5.o.step mN.o (show Bw wr w7 from ak (ak cU.o aH.drew) dL) aT kn);have ke:=aa (show Bw w (w9.setCell ⟨g,cn,none⟩ (.slice (some ⟨g9,0,none⟩) tl c9)) from ((zr.o.trans ((ak (ak cU.o aH.drew) dL).mono zr.o.size)).trans (kn.mono bp.o.size)).grown (av w9 g cn _) (Nat.le_trans zr.o.size (Nat.le_trans (ak (ak cU.o aH.drew) dL).size kn.size)) (fun k e=>by cases e;exact HWG.o));have NT:=aa (show w4.heap.size≤(w9.setCell ⟨g,cn,none⟩ (.slice (some ⟨g9,0,none⟩) tl c9)).heap.size from Nat.le_trans mN.o (Nat.le_trans (ak (ak cU.o aH.drew) dL).size (Nat.le_trans kn.size (av w9 g cn _).size)));clear hrun Ao kn gO vW F6 dL hHeld;go_simp;refine hK.out _ _ sj.o (fun hHeld=>?_);clear hK K;refine cB 17 63 (.agg #[.int .i64 po,.int .i64 L,.int .i64 q2,.bool true]) rfl rfl hHeld ?_;simp only[aD];refine kh 18 rfl (fun K hK=>?_);go_simp;refine hK.out _ _ (mq _ sj.o) (fun hHeld=>?_);clear hK K;refine kh 19 rfl (fun K hK=>?_);refine bD rfl _ _ _ rfl rfl rfl dJ.o ?_;refine hK.out _ _ zu.o (fun hHeld=>?_);clear hK K;refine cB 20 66 (.pointer (some ⟨g,cn,none⟩)) rfl rfl hHeld ?_;simp only[Act.put,List.setIfInBounds_toArray];obtain ⟨vW,F6⟩:=Yr.o;refine kh 21 rfl (fun K hK=>?_);go_simp;refine hK.out _ _ (vU Qn.o.1 Qn.o.2 zu.o) (fun hHeld=>?_);clear hK K vW F6 hHeld;refine wpAnyH_done (by kernel_rfl) ?_ _;clear c1 c7 c8;go_wp2_with fail;go_roundw
    case rel=>exact ⟨k+1,T.set cn (t++[(po,L,q2,true)]),by omega,by go_num,NS.o,RV.o,RX.o,CS.o,ke.o,NT.o⟩
    case measure=>first|exact dQ hlt|(have hm:=dQ hlt;rw[← Ql] at hm;exact hm)
   ·go_simp
    refine (sY cn po sz L pk fJ.o.1 fJ.o.2 rC.o W6.drew).mono ?_;rintro e w7 ⟨rfl,dL⟩;have sj:=aa (iy dL kJ.o);obtain ⟨r2,c7,g9,c9,w9,hrun,vW,F6,Ao,kn,gO⟩:=vL wr w7 g w4.heap.size g n cn T t (po,L,q2,true) (ak (ak cU.o aH.drew) dL) Jq.o HTT.o Aq.o mN.o;obtain rfl:r2=r:=Option.some.inj (c7.symm.trans (ae dL c1));obtain ⟨tl,VB⟩:∃n,t.length+1=n:=⟨_,rfl⟩
    rw[VB] at hrun Ao;have zu:=aa (And.intro (gO _ _ Js.o sj.o.1) (And.intro (gO _ _ Js.o sj.o.2.1) (And.intro (gO _ _ Js.o sj.o.2.2.1) (And.intro (gO _ _ Js.o sj.o.2.2.2.1) ((kn.cell HGP.o.1).trans sj.o.2.2.2.2)))));have c8:(w7.alloc (.cells #[.int .i64 po,.int .i64 L,.int .i64 q2,.bool true] 52)).cell? ⟨g,cn,none⟩=some r2:=ae (ar) c7;have dJ:=aa hrun;have NS:=aa Ao;have Yr:=aa (And.intro vW F6);have CS:=aa (show Ap g w4 (w9.setCell ⟨g,cn,none⟩ (.slice (some ⟨g9,0,none⟩) tl c9)) from G5.o.step mN.o (show Bw wr w7 from ak (ak cU.o aH.drew) dL) aT kn);have ke:=aa (show Bw w (w9.setCell ⟨g,cn,none⟩ (.slice (some ⟨g9,0,none⟩) tl c9)) from ((zr.o.trans ((ak (ak cU.o aH.drew) dL).mono zr.o.size)).trans (kn.mono bp.o.size)).grown (av w9 g cn _) (Nat.le_trans zr.o.size (Nat.le_trans (ak (ak cU.o aH.drew) dL).size kn.size)) (fun k e=>by cases e;exact HWG.o));have NT:=aa (show w4.heap.size≤(w9.setCell ⟨g,cn,none⟩ (.slice (some ⟨g9,0,none⟩) tl c9)).heap.size from Nat.le_trans mN.o (Nat.le_trans (ak (ak cU.o aH.drew) dL).size (Nat.le_trans kn.size (av w9 g cn _).size)));clear hrun Ao kn gO vW F6 dL hHeld;go_simp;refine hK.out _ _ sj.o (fun hHeld=>?_);clear hK K;refine cB 17 63 (.agg #[.int .i64 po,.int .i64 L,.int .i64 q2,.bool true]) rfl rfl hHeld ?_;simp only[aD];refine wpAnyH_ready (rs:=[7,18]) (by kernel_rfl) (by simp) ?_;refine AllReadyH.cons rfl (fun K hK=>?_) (AllReadyH.cons rfl (fun K hK=>?_) AllReadyH.nil)
    ·go_simp
     refine hK.out _ _ sj.o (fun hHeld=>?_);clear hK K;refine kh 18 rfl (fun K hK=>?_);go_simp;refine hK.out _ _ (mq _ sj.o) (fun hHeld=>?_);clear hK K;refine kh 19 rfl (fun K hK=>?_);refine bD rfl _ _ _ rfl rfl rfl dJ.o ?_;refine hK.out _ _ zu.o (fun hHeld=>?_);clear hK K;refine cB 20 66 (.pointer (some ⟨g,cn,none⟩)) rfl rfl hHeld ?_;simp only[Act.put,List.setIfInBounds_toArray];obtain ⟨vW,F6⟩:=Yr.o;refine kh 21 rfl (fun K hK=>?_);go_simp;refine hK.out _ _ (vU Qn.o.1 Qn.o.2 zu.o) (fun hHeld=>?_);clear hK K vW F6 hHeld;refine wpAnyH_done (by kernel_rfl) ?_ _;clear c1 c7 c8;go_wp2_with fail;go_roundw
     case rel=>exact ⟨k+1,T.set cn (t++[(po,L,q2,true)]),by omega,by go_num,NS.o,RV.o,RX.o,CS.o,ke.o,NT.o⟩
     case measure=>first|exact dQ hlt|(have hm:=dQ hlt;rw[← Ql] at hm;exact hm)
    ·go_simp
     refine hK.out _ _ (mq _ sj.o) (fun hHeld=>?_);clear hK K;refine kh 7 rfl (fun K hK=>?_);go_simp;refine hK.out _ _ hHeld (fun hHeld=>?_);clear hK K;refine kh 19 rfl (fun K hK=>?_);refine bD rfl _ _ _ rfl rfl rfl dJ.o ?_;refine hK.out _ _ zu.o (fun hHeld=>?_);clear hK K;refine cB 20 66 (.pointer (some ⟨g,cn,none⟩)) rfl rfl hHeld ?_;simp only[Act.put,List.setIfInBounds_toArray];obtain ⟨vW,F6⟩:=Yr.o;refine kh 21 rfl (fun K hK=>?_);go_simp;refine hK.out _ _ (vU Qn.o.1 Qn.o.2 zu.o) (fun hHeld=>?_);clear hK K vW F6 hHeld;refine wpAnyH_done (by kernel_rfl) ?_ _;clear c1 c7 c8;go_wp2_with fail;go_roundw
     case rel=>exact ⟨k+1,T.set cn (t++[(po,L,q2,true)]),by omega,by go_num,NS.o,RV.o,RX.o,CS.o,ke.o,NT.o⟩
     case measure=>first|exact dQ hlt|(have hm:=dQ hlt;rw[← Ql] at hm;exact hm)
theorem wK (pk pc pp:Option Addr) (n ck nc cc np cp:Nat) (f pos:Int) (dd:Bool) (w:World) (hn:n≤maxLen):Calls prog 116 #[.agg #[.slice pk n ck,.slice pc nc cc,.int .i64 f,.slice pp np cp,.bool dd],.int .i64 pos] w fun e w'=>e=.returned (.bool (decide (0≤pos∧pos<n)))∧Bw w w':=by
 obtain ⟨W1,hW1⟩:=aG (w.alloc (.cells #[.slice pk n ck,.slice pc nc cc,.int .i64 f,.slice pp np cp,.bool dd] 26));have aY:=aa (show Bw w W1 by rw[← hW1];exact ar);have aU:=aa (show eH W1 w.heap.size (.slice pk n ck) (.slice pc nc cc) (.int .i64 f) (.slice pp np cp) (.bool dd) by rw[← hW1];exact eH.new w _ _ _ _ _ _);have lN:=fG (n:=n) hn;clear hn;go_enter func116,ntmps116;go_upto_region 1 with fail
 try rw[hW1]
 clear hW1;obtain ⟨x0,x1,x2,x3,x4⟩:=aU.o;by_cases h0:0≤pos
 ·have d0:decide (0≤pos)=true:=decide_eq_true h0
  by_cases h1:pos<n
  ·have HF:=aa (show decide (0≤pos∧pos<n)=true from decide_eq_true ⟨h0,h1⟩)
   have d1:decide (pos<(n:Int))=true:=decide_eq_true h1;clear h0 h1;go_wp2_with fail;go_ret;exact ⟨aN HF.symm,aY⟩
  ·have HF:=aa (show decide (0≤pos∧pos<n)=false from decide_eq_false (fun h=>h1 h.2))
   have d1:decide (pos<(n:Int))=false:=decide_eq_false h1;clear h0 h1;go_wp2_with fail;go_ret;exact ⟨aN HF.symm,aY⟩
 ·have d0:decide (0≤pos)=false:=decide_eq_false h0
  have HF:=aa (show decide (0≤pos∧pos<n)=false from decide_eq_false (fun h=>h0 h.1));clear h0;go_wp2_with fail;go_ret;exact ⟨aN HF.symm,aY⟩
theorem wL (d:aO) (vk vc vp:Value) (w:World) (h:bN w d vk vc vp):Calls prog 62 #[ew d vk vc vp] w fun e w'=>e=.returned (.bool (fZ d))∧Bw w w':=by
 obtain ⟨pk,ck,rfl,a1,a2⟩:=h.kept.slice;obtain ⟨pc,cc,rfl,b1,b2⟩:=h.cache.slice;obtain ⟨pp,cp,rfl,_,_⟩:=h.keep.slice;have HK:=aa h.kept.cells;have HC:=aa h.cache.cells;have fJ:=aa h.bd;obtain ⟨q,hq⟩:=aG (fZ d);have HQ:=aa (gu d);rw[hq] at HQ ⊢;obtain ⟨kept,cache,ah,keep,dead⟩:=d;simp only at HK HC HQ a1 b1 ⊢;unfold ew;simp only;obtain ⟨N,hN⟩:=aG kept.length;obtain ⟨M,hM⟩:=aG cache.length;obtain ⟨L,hL⟩:=aG keep.length;rw[hN,hM] at HQ;rw[hN,hM,hL];rw[hN] at a1;rw[hM] at b1;have HN:=aa hN;have HM:=aa hM;have lN:=fG (n:=N) a2;have lM:=fG (n:=M) b2;have Qq:=aa (fun (y:Int) (W:World)=>wK pk pc pp N ck M cc L cp ah y dead W (Nat.le_trans a1 a2));clear h hq hN hM hL a1 a2 b1 b2;obtain ⟨W1,hW1⟩:=aG (w.alloc (.cells #[.slice pk N ck,.slice pc M cc,.int .i64 ah,.slice pp L cp,.bool dead] 26));have aY:=aa (show Bw w W1 by rw[← hW1];exact ar);have aU:=aa (show eH W1 w.heap.size (.slice pk N ck) (.slice pc M cc) (.int .i64 ah) (.slice pp L cp) (.bool dead) by rw[← hW1];exact eH.new w _ _ _ _ _ _);have ee:=aa hW1;clear hW1;go_enter func62,ntmps62;go_upto_region 1 with fail;rw[ee.o];obtain ⟨x0,x1,x2,x3,x4⟩:=aU.o;have hc:(N:Int)<1∨((1:Int)≤(N:Int)∧(5000:Int)<(N:Int))∨((1:Int)≤(N:Int)∧(N:Int)≤5000∧(20000:Int)<(M:Int))∨((1:Int)≤(N:Int)∧(N:Int)≤5000∧(M:Int)≤20000∧ah < -1)∨((1:Int)≤(N:Int)∧(N:Int)≤5000∧(M:Int)≤20000 ∧ -1≤ah):=by omega
 rcases hc with c1|⟨c1,c2⟩|⟨c1,c2,c3⟩|⟨c1,c2,c3,c4⟩|⟨c1,c2,c3,c4⟩
 ·have HF:=aa (show q=false by rw[← Bool.not_eq_true,HQ.o];intro h;omega)
  obtain rfl:N=0:=by omega
  go_wp2_with fail;go_ret;exact ⟨aN HF.symm,aY⟩
 ·have HF:=aa (show q=false by rw[← Bool.not_eq_true,HQ.o];intro h;omega)
  have d1:decide ((N:Int)<1)=false:=by simp;omega
  have d2:decide (N<1)=false:=by simp;omega
  have d3:(N==0)=false:=by simp;omega
  go_wp2_with fail;go_ret;exact ⟨aN HF.symm,aY⟩
 ·have HF:=aa (show q=false by rw[← Bool.not_eq_true,HQ.o];intro h;omega)
  go_wp2_with fail;go_ret;exact ⟨aN HF.symm,aY⟩
 ·have HF:=aa (show q=false by rw[← Bool.not_eq_true,HQ.o];intro h;omega)
  go_wp2_with fail;go_ret;exact ⟨aN HF.symm,aY⟩
 have Rx:=aa (And.intro c1 (And.intro c2 (And.intro c3 c4)));have e1:decide (5000<(N:Int))=false:=by simp;omega
 go_wp2_with fail;clear x0 x1 x2 x3 x4;go_loopw [31,4] (fun i _ wr=>∃k:Nat,k≤N∧i=.int .i64 k∧(∀(j:Nat) s,j<k→kept[j]?=some s→s.size=32)∧Bw W1 wr) (fun i _ _=>N-(intOf i).toNat)
 case atStart=>exact ⟨0,dO,rfl,fun j s hj=>by omega,aH⟩
 case round=>
  obtain ⟨k,hk,rfl,hall,hb⟩:=hrel;have pN:=aa hall;have HB:=aa hb;obtain ⟨x0,x1,_,_,_⟩:=aU.below hb;clear hall hb;by_cases hlt:k<N
  ·have fN:(k:Int)<(N:Int):=by omega
   obtain ⟨s,hs⟩:=fx (l:=kept) (k:=k) (by rw[HN.o];exact hlt);obtain ⟨g,o,rfl,hcell⟩:=HK.o k s hs;have r0:=ae HB (ae aY (hcell 0 _ rfl));replace r0:wr.cell? ⟨g,o+k,none⟩=some (.string s):=by simpa using r0
   have wV:s.size≤9223372036854775807:=by have:=fJ.kept s (List.mem_of_getElem? hs);unfold maxLen at this;exact this
   have HS:=aa hs;clear hcell hs;by_cases h32:s.size=32
   ·have d1:((s.size:Int) != 32)=false:=by simp;omega
    have d2:(s.size != 32)=false:=(by simp[h32]);have H32:=aa h32;clear h32;go_wp2_with fail;go_roundw
    case rel=>exact ⟨k+1,by omega,by go_num,fun j y hj hy=>by
     by_cases e:j=k
     ·subst e;rw[HS.o] at hy;cases hy;exact H32.o
     ·exact pN.o j y (by omega) hy,HB.o⟩
    case measure=>simp[intOf];omega
   ·have d1:((s.size:Int) != 32)=true:=by simp;omega
    have d2:(s.size != 32)=true:=(by simp[h32]);have HF:=aa (show q=false by rw[← Bool.not_eq_true,HQ.o];intro h;exact h32 (h.2.1 s (List.mem_of_getElem? HS)));clear h32;go_wp2_with fail;go_ret;exact ⟨aN HF.symm,ak aY HB⟩
  ·obtain rfl:k=N:=by omega
   have Ry:=aa (show ∀s∈kept,s.size=32 from fun s hs=>by
    obtain ⟨j,hj⟩:=List.getElem?_of_mem hs;have D7:=(List.getElem?_eq_some_iff.1 hj).1;rw[HN.o] at D7;exact pN j s D7 hj)
   go_wp2_with fail;clear x0 x1;go_loopw [42,6] (fun i _ wz=>∃j:Nat,j≤M∧i=.int .i64 j∧(∀(i:Nat) p,i<j→cache[i]?=some p→0≤p.1∧p.1<(k:Int)∧p.2.size=32)∧Bw W1 wz) (fun i _ _=>M-(intOf i).toNat)
   case atStart=>exact ⟨0,dO,rfl,fun j s hj=>by omega,HB⟩
   case round=>
   obtain ⟨j,hj,rfl,hall,hb⟩:=hrel;have GI:=aa hall;have bS:=aa hb;have dV:=aa (aU.below hb);clear hall hb;by_cases iZ:j<M
   ·have Gg:(j:Int)<(M:Int):=by omega
    have Rz:(0:Int)≤(j:Int):=(by omega);obtain ⟨⟨y,s⟩,hs⟩:∃s,cache[j]?=some s:=⟨_,List.getElem?_eq_getElem (by rw[HM.o];exact iZ)⟩
    obtain ⟨g,o,rfl,hcell⟩:=HC.o j _ hs;have r0:=ae bS (ae aY (hcell 0 _ rfl));have r1:=ae bS (ae aY (hcell 1 _ rfl));replace r0:wr.cell? ⟨g,o+j*2,none⟩=some (.int .i64 y):=r0;replace r1:wr.cell? ⟨g,o+j*2+1,none⟩=some (.string s):=r1;have wV:s.size≤9223372036854775807:=by have:=(fJ.cache _ (List.mem_of_getElem? hs)).2;unfold maxLen at this;exact this
    have HS:=aa hs;clear hcell hs;go_upto_region 12 with fail;obtain ⟨W3,hW3⟩:=aG (wr.alloc (.cells #[.int .i64 y,.string s] 47));have xO:=aa (show W3.cell? ⟨wr.heap.size,0,none⟩=some (.int .i64 y)∧W3.cell? ⟨wr.heap.size,1,none⟩=some (.string s) by rw[← hW3];exact ⟨by simp,by simp⟩);have dF:=aa (show Bw wr W3 by rw[← hW3];exact ar);rw[hW3];clear hW3 r0 r1;obtain ⟨x0,x1,x2,x3,x4⟩:=dV.below dF.o;have vF:=aa (ak bS dF);obtain ⟨r0,r1⟩:=xO.o;by_cases fg:0≤y∧y<(k:Int)∧s.size=32
    ·have HG:=aa fg
     have HE:=aa (show decide (0≤y∧y<(k:Int))=true from decide_eq_true ⟨fg.1,fg.2.1⟩);have d3:((s.size:Int) != 32)=false:=by simp;omega
     have d4:(s.size != 32)=false:=(by simp[fg.2.2]);clear fg;go_wp2_with (go_at_call 116;(refine (Qq.o _ _).mono ?_);rintro e w5 ⟨rfl,aR⟩;rw[HE.o];have bp:=bh vF aR;have U9:=aa (And.intro (ae aR r0) (ae aR r1));clear aR;have k1:=U9.o.2);go_roundw
     case rel=>exact ⟨j+1,by omega,by go_num,fun i p hi hp=>by
      by_cases e:i=j
      ·subst e;rw[HS.o] at hp;cases hp;exact HG.o
      ·exact GI.o i p (by omega) hp,bp.o⟩
     case measure=>simp[intOf];omega
    ·have HF:=aa (show q=false by rw[← Bool.not_eq_true,HQ.o];intro h;exact fg (h.2.2 _ (List.mem_of_getElem? HS)))
     by_cases hc:0≤y∧y<(k:Int)
     ·have HE:=aa (show decide (0≤y∧y<(k:Int))=true from decide_eq_true hc)
      have d3:((s.size:Int) != 32)=true:=by simp;omega
      have d4:(s.size != 32)=true:=by simp;omega
      clear hc fg;go_wp2_with (go_at_call 116;(refine (Qq.o _ _).mono ?_);rintro e w5 ⟨rfl,aR⟩;rw[HE.o];have bp:=bh vF aR;have U9:=aa (And.intro (ae aR r0) (ae aR r1));clear aR;have k1:=U9.o.2);go_ret;exact ⟨aN HF.symm,ak aY bp⟩
     ·have HE:=aa (show decide (0≤y∧y<(k:Int))=false from decide_eq_false hc)
      clear hc fg;go_wp2_with (go_at_call 116;(refine (Qq.o _ _).mono ?_);rintro e w5 ⟨rfl,aR⟩;rw[HE.o];have bp:=bh vF aR;clear aR);go_ret;exact ⟨aN HF.symm,ak aY bp⟩
   ·obtain rfl:j=M:=by omega
    have HF:=aa (show q=true by
     rw[HQ.o];have:=Rx.o;refine ⟨by omega,Ry,fun p hp=>?_⟩;obtain ⟨i,hi⟩:=List.getElem?_of_mem hp;have pO:=(List.getElem?_eq_some_iff.1 hi).1;rw[HM.o] at pO;exact GI i p pO hi)
    go_wp2_with fail;go_ret;exact ⟨aN HF.symm,ak aY bS⟩
end Go.Proofs.YtbigkioechkngaaGreat
