/- The proof, part 10. -/
import Derived.Test.YtbigkioechkngaaGreatR8
set_option maxRecDepth 100000
set_option maxHeartbeats 8000000
namespace Go.Proofs.YtbigkioechkngaaGreat
open Go.RowKit Tryz
variable {c:List (List aj)}{F:Nat→Prop}{v:Value}{w:World}
abbrev vT:=Option Addr×Nat×Nat
def gY (s:vT):Value:=.slice s.1 s.2.1 s.2.2
def GZ (s:vT):List Value:=[gY s]
theorem lB (s:vT):(GZ s).length=1:=rfl
theorem Mn (s:vT):∀u∈GZ s,u.oneCell'=true:=by intro u hu;unfold GZ at hu;simp only[List.mem_singleton] at hu;subst hu;rfl
theorem dA.sl {l:List aj} (h:dA w v l):∃s:vT,v=gY s:=by obtain ⟨p,c,h1,_⟩:=h;exact ⟨(p,l.length,c),h1⟩
theorem dH.rows (h:dH w v c):∃(p:Option Addr) (cp:Nat) (rs:List vT),v=.slice p c.length cp∧c.length≤cp∧cp≤maxLen∧rs.length=c.length∧∀i s,rs[i]?=some s→(∃g o,p=some ⟨g,o,none⟩∧w.cell? ⟨g,o+i,none⟩=some (gY s))∧∀t,c[i]?=some t→dA w (gY s) t:=by
 obtain ⟨p,cp,h1,h2,h3,h4⟩:=h;have h5:∀i:Fin c.length,∃s:vT,(∃g o,p=some ⟨g,o,none⟩∧w.cell? ⟨g,o+i.1,none⟩=some (gY s))∧dA w (gY s) c[i.1]:=fun i=>by obtain ⟨g,o,u,e1,e2,e3⟩:=h4 i.1 _ (List.getElem?_eq_getElem i.2);obtain ⟨s,rfl⟩:=e3.sl;exact ⟨s,⟨g,o,e1,e2⟩,e3⟩
 refine ⟨p,cp,List.ofFn fun i=>(h5 i).choose,h1,h2,h3,List.length_ofFn,fun i s hs=>?_⟩;obtain ⟨hi,rfl⟩:=List.getElem?_eq_some_iff.1 hs;have hi':i<c.length:=by rw[List.length_ofFn] at hi;exact hi
 have h6:=(h5 ⟨i,hi'⟩).choose_spec;rw[List.getElem_ofFn];refine ⟨h6.1,fun t ht=>?_⟩;obtain ⟨_,rfl⟩:=List.getElem?_eq_some_iff.1 ht;exact h6.2
theorem uI {p:Option Addr} {cp n:Nat} {rs:List vT} (hn:c.length=n) (h1:n≤cp) (h2:cp≤maxLen) (hl:rs.length=n) (h:∀i s t,rs[i]?=some s→c[i]?=some t→(∃g o,p=some ⟨g,o,none⟩∧w.cell? ⟨g,o+i,none⟩=some (gY s))∧dA w (gY s) t):dH w (.slice p n cp) c:=by
 subst hn;refine ⟨p,cp,rfl,h1,h2,fun i t ht=>?_⟩;have hi:i<rs.length:=by rw[hl];exact (List.getElem?_eq_some_iff.1 ht).1
 obtain ⟨⟨g,o,e1,e2⟩,e3⟩:=h i _ t (List.getElem?_eq_getElem hi) ht;exact ⟨g,o,_,e1,e2,e3⟩
theorem jo (h:dH w v c):∃p cp,v=.slice p c.length cp∧c.length≤cp∧cp≤maxLen:=by obtain ⟨p,cp,h1,h2,h3,_⟩:=h;exact ⟨p,cp,h1,h2,h3⟩
theorem G0 (w:World):dA w (.slice none 0 0) []:=⟨none,0,rfl,aT,by unfold maxLen;omega,fun i x hx=>by simp at hx⟩
theorem rL (w:World):dH w (.slice none 0 0) []:=⟨none,0,rfl,aT,by unfold maxLen;omega,fun i x hx=>by simp at hx⟩
theorem df :dI (mask F w) w:=fun _ _ hv=>(aq.1 hv).2
theorem NR {B:Nat} {l:List aj} (h:w.ownsRow B 52 4 v l.length (aI l)) (hF:∀q,B≤q→F q):dA (mask F w) v l:=by
 rcases aJ h with ⟨hv,hn,_⟩|⟨g,cap,hv⟩
 ·have hl:l=[]:=List.eq_nil_of_length_eq_zero hn
  subst hl;rw[hv];exact G0 _
 ·have hg:=(h.lt g (by rw[hv];rfl)).1
  obtain ⟨p,c,e,h2,h3,h4⟩:=fj h;refine ⟨p,c,e,h2,h3,fun i x hx=>?_⟩;obtain ⟨g',o',e1,k0,k1,k2,k3⟩:=h4 i x hx;have:g'=g:=by rw[hv,e1] at e;injection e with e _ _;injection e with e;injection e with e;exact e.symm
  subst this;exact ⟨g',o',e1,aq.2 ⟨hF _ hg,k0⟩,aq.2 ⟨hF _ hg,k1⟩,aq.2 ⟨hF _ hg,k2⟩,aq.2 ⟨hF _ hg,k3⟩⟩
def VA (F:Nat→Prop) (w:World) (c:List (List aj)) (e:Ending) (w':World):Prop:=∃v,e=.returned v∧dH (mask F w') v c∧Bw w w'
def RQ (F:Nat→Prop) (w:World) (c:List (List aj)) (more:List Value) (e:Ending) (w':World):Prop:=∃v,e=.returned (.tuple (v::more).toArray)∧dH (mask F w') v c∧Bw w w'
def jT (n no:Int):Nat→List (List aj)→Option (Nat×List aj×Int)
 |_,[]=>none
 |i,t::c=>if (gQ t n).2.2=true∧¬(i:Int)=no then some (i,(gQ t n).1,(gQ t n).2.1) else jT n no (i+1) c
theorem Ak {k:Nat} {t:List aj} {n no:Int} (h:c[k]?=some t):jT n no k (c.drop k)=if (gQ t n).2.2=true∧¬(k:Int)=no then some (k,(gQ t n).1,(gQ t n).2.1) else jT n no (k+1) (c.drop (k+1)):=by rw[List.drop_eq_getElem_cons (List.getElem?_eq_some_iff.1 h).1,(List.getElem?_eq_some_iff.1 h).2];rfl
def bR (c:List (List aj)) (n no:Int):List (List aj)×Int×Int×Bool:=
 if cI c=true then (match jT n no 0 c with|some (i,t,a)=>(c.set i t,(i:Int),a,true)|none=>([],0,0,false)) else ([],0,0,false)
theorem G1 {n no:Int}:∀ {c:List (List aj)} {i j:Nat} {t:List aj} {a:Int},jT n no i c=some (j,t,a)→i≤j∧j<i+c.length∧¬(j:Int)=no∧∃u,c[j-i]?=some u∧(gQ u n).2.2=true∧t=(gQ u n).1∧a=(gQ u n).2.1
 |[],_,_,_,_,h=>by cases h
 |u::c,i,j,t,a,h=>by
  unfold jT at h
  split at h
  ·rename_i hc
   injection h with h;injection h with h1 h2;injection h2 with h2 h3;subst h1;exact ⟨aT,by simp,hc.2,u,by simp,hc.1,h2.symm,h3.symm⟩
  ·obtain ⟨h1,h2,h3,u',h4,h5⟩:=G1 h
   refine ⟨by omega,by simp only[List.length_cons];omega,h3,u',?_,h5⟩;obtain ⟨k,hk⟩:∃k,j-i=k+1:=⟨j-i-1,by omega⟩
   rw[hk,List.getElem?_cons_succ];rw[show k=j-(i+1) by omega];exact h4
def G2 (c:List (List aj)) (x:aB):Bool:=cO x&&decide (x.chunk<c.length)&&((c[x.chunk.toNat]?).getD []).any (fun u=>decide (u.1=x.pos∧u.2.1=cg x.size))
def fM (c:List (List aj)) (x:aB) (b:Int):List (List aj)×Bool:=
 if cI c=true∧G2 c x=true then (if (jD ((c[x.chunk.toNat]?).getD []) x.pos b).2=true then (c.set x.chunk.toNat (jD ((c[x.chunk.toNat]?).getD []) x.pos b).1,true) else ([],false)) else ([],false)
theorem Kf {W:World} {B g cap n:Nat} {rs:List vT} (h:W.ownsRow B 45 1 (.slice (some ⟨g,0,none⟩) n cap) n (bk GZ rs)) (hF:∀q,B≤q→F q) (hl:rs.length=n) (hc:c.length=n) (hu:∀(i:Nat) (s:vT) (t:List aj),rs[i]?=some s→c[i]?=some t→dA (mask F W) (gY s) t):dH (mask F W) (.slice (some ⟨g,0,none⟩) n cap) c:=by
 obtain ⟨_,_,_,h3,h4,_⟩:=bl h;refine uI hc h3 h4 hl fun i s t hs ht=>⟨⟨g,0,rfl,?_⟩,hu i s t hs ht⟩
 obtain ⟨h6,h7⟩:=List.getElem?_eq_some_iff.1 (eN lB rs i s 0 (gY s) hs rfl);have:=bG h _ h6;rw[h7] at this;rw[Nat.zero_add];exact aq.2 ⟨hF _ (h.lt g rfl).1,by simpa using this⟩
theorem Kg (c:List (List aj)) (pos:Nat) (l:List aj) (v1 v2:Value) (w:World) (F:Nat→Prop) (hF:∀q,w.heap.size≤q→F q) (h1:dH (mask F w) v1 c) (h2:dA (mask F w) v2 l) (hp:pos<c.length) (hlc:c.length≤1000000):Calls prog 90 #[v1,.int .i64 pos,v2] w (VA F w (c.set pos l)):=by
 obtain ⟨p,cp,rs,rfl,b1,b2,hl,hel⟩:=h1.rows;obtain ⟨s2,rfl⟩:=h2.sl;have WW:¬p=none:=fun e=>by obtain ⟨⟨g,o,e',_⟩,_⟩:=hel 0 _ (List.getElem?_eq_getElem (by omega));rw[e] at e';cases e'
 have hrow:dw w (.slice p c.length cp) 1 GZ rs:=⟨p,cp,by rw[hl],by rw[hl];exact b1,b2,fun e=>absurd e WW,fun i s hs=>by
  obtain ⟨⟨g,o,e1,e2⟩,_⟩:=hel i s hs;exact ⟨g,o,e1,fun j u hj=>by
   unfold GZ at hj;cases j with
   |zero=>simp only[List.getElem?_cons_zero,Option.some.injEq] at hj;subst hj;rw[Nat.mul_one,Nat.add_zero];exact df _ _ e2
   |succ j=>simp at hj⟩⟩
 obtain ⟨p',c',e0,_,_,hc,jh⟩:=hrow.src lB Mn (by decide);injection e0 with e1 e2 e3;subst e1;subst e3;clear e2;rw[hl] at jh;obtain ⟨i0,iM,hz0,hz1,hz2⟩:=info_parts yQ;obtain ⟨v',w1,r1,o1,g1⟩:=dM (P:=prog) (w.alloc (.cells #[] 45)) w.heap.size 28 28 45 i0 (.slice none 0 0) 1 24 underlying28 iM hz0 hz1 hz2 rfl (by decide) _ 0 [] (World.ownsRow_made w #[] 0 aT (by unfold maxLen;omega) rfl) p c.length cp _ (jh.stays (ar)) hc (by unfold maxLen;omega) (by omega) (by simp);rw[List.nil_append,Nat.zero_add] at o1;have hb1:Bw w w1:=fy (il g1) aT (fun k hk=>by simp[Value.ownBlock] at hk;omega);rcases aJ o1 with ⟨_,e,_⟩|⟨g,cap,rfl⟩
 ·omega
 have f0:=gj o1 pos;obtain ⟨x0,hx0⟩:∃x,rs[pos]?=some x:=⟨_,List.getElem?_eq_getElem (by omega)⟩
 have c0:w1.cell? ⟨g,pos,none⟩=some (gY x0):=by obtain ⟨h6,h7⟩:=List.getElem?_eq_some_iff.1 (eN lB rs pos x0 0 (gY x0) hx0 rfl);have:=bG o1 _ h6;rw[h7] at this;simpa using this
 have hBS:=hb1.setCell (p:=⟨g,pos,none⟩) (o1.lt g rfl).1 (gY s2);have ow:=aa (Kf (F:=F) (c:=c.set pos l) (yR lB o1 (show pos<rs.length by omega) (x:=s2) (a:=gY s2) rfl) hF (by rw[List.length_set];exact hl) (by rw[List.length_set]) (fun i s t hs ht=>by
  have tj:dI (mask F w) (mask F (w1.setCell ⟨g,pos,none⟩ (gY s2))):=aC hBS (fun q _ h=>h);by_cases hi:pos=i
  ·subst hi
   rw[List.getElem?_set_self (by omega)] at hs ht;cases hs;cases ht;exact h2.keep tj
  ·rw[List.getElem?_set_ne hi] at hs ht
   exact ((hel i s hs).2 t ht).keep tj))
 have dJ:=aa r1;have yC:=aa hBS;have p0:(0:Int)≤(pos:Int):=by omega
 have p1:(pos:Int)<(c.length:Int):=by omega
 obtain ⟨n,hn⟩:=aG c.length;unfold gY at *;rw[hn] at dJ ow p1 ⊢;clear r1 o1 g1 hb1 jh hp hl hn h1 h2 hel hx0 hrow hBS hc hlc b1 b2 WW;go_enter func90,ntmps90;go_wp2_with (at_builtin;refine Lib.wpList_append_run _ rfl _ _ _ _ rfl _ _ rfl rfl _ _ dJ.o ?_);go_ret;exact ⟨_,rfl,ow,yC⟩
theorem Kh (c:List (List aj)) (n no:Int) (hn:aQ n) (v1:Value) (w:World) (F:Nat→Prop) (hF:∀q,w.heap.size≤q→F q) (h1:dH (mask F w) v1 c):Calls prog 37 #[v1,.int .i64 n,.int .i64 no] w (RQ F w (bR c n no).1 [.int .i64 (bR c n no).2.1,.int .i64 (bR c n no).2.2.1,.bool (bR c n no).2.2.2]):=by
 have eJ:=aa (zK c v1 w (h1.keep df));have HWT:=aa (fun W (hb:Bw w W) pos l v2=>Kg c pos l v1 v2 W F (fun q hq=>hF q (Nat.le_trans hb.size hq)) (h1.keep (aC hb (fun _ _ h=>h))));obtain ⟨m,hm⟩:=aG (cI c);have HM:=aa hm;rw[hm] at eJ;obtain ⟨r,hr⟩:=aG (bR c n no);have HR:=aa hr;rw[hr];unfold bR at HR;clear hr;have H1:=aa h1;obtain ⟨p,cp,rfl,a1,a2,ha⟩:=h1;have HA:=aa ha;obtain ⟨N,hN⟩:=aG c.length;rw[hN] at a1 eJ HWT;rw[hN];have hlc:=fG (n:=N) a2;have HN:=aa hN;clear ha hN a1 a2 hm;have HI:=aa hn;have xH:=aa hF;clear hn hF;go_enter func37,ntmps37;cases m with
 |false=>have HE:=aa (show r=([],0,0,false) by rw[← HR.o,if_neg (by rw[HM.o];simp)]);go_wp2_with (go_at_call 50;(refine eJ.o.mono ?_);rintro e w5 ⟨rfl,aR⟩;have bp:=aa aR;clear aR);refine au (v:=.tuple #[.slice none 0 0,.int .i64 0,.int .i64 0,.bool false]) ⟨.slice none 0 0,by rw[HE.o],by rw[HE.o];exact rL _,bp⟩ ?_;simp[results,results37,go_sem]
 |true=>
  have HE:=aa (show (match jT n no 0 c with|some (i,t,a)=>(c.set i t,(i:Int),a,true)|none=>([],0,0,false))=r by have h:=HR.o;rw[if_pos HM.o] at h;exact h);have yF:=aa (show N≤1000 by
   have h:=HM.o;unfold cI at h;simp only[Bool.and_eq_true,decide_eq_true_eq] at h;rw[HN.o] at h;exact h.2.2)
  go_upto_region 3 with (go_at_call 50;(refine eJ.o.mono ?_);rintro e w5 ⟨rfl,aR⟩;have bp:=aa aR;clear aR);go_wp2_with fail;go_loopw [10,11,12,13] (fun i _ _ _ wr=>∃k:Nat,k≤N∧i=.int .i64 k∧jT n no 0 c=jT n no k (c.drop k)∧Bw w wr) (fun i _ _ _ _=>N-(intOf i).toNat)
  case atStart=>exact ⟨0,dO,rfl,by rw[List.drop_zero],bp⟩
  case round=>
   obtain ⟨k,hk,rfl,heq,hb⟩:=hrel;have xA:=aa heq;have HB:=aa hb;clear heq hb;by_cases hlt:k<N
   case neg=>
    obtain rfl:k=N:=by omega
    have HG:=aa (show r=([],0,0,false) by rw[← HE.o,xA.o,List.drop_of_length_le (by rw[HN.o];exact aT)];rfl);go_wp2_with fail;refine au (v:=.tuple #[.slice none 0 0,.int .i64 0,.int .i64 0,.bool false]) ⟨.slice none 0 0,by rw[HG.o],by rw[HG.o];exact rL _,HB⟩ ?_;simp[results,results37,go_sem]
   case pos=>
    have fN:(k:Int)<(N:Int):=(by omega);obtain ⟨t,ht⟩:=fx (l:=c) (k:=k) (by rw[HN.o];omega);obtain ⟨g,o,u1,rfl,x1,x2⟩:=HA.o k _ ht;obtain ⟨pu,cu,rfl,_⟩:=id x2;have r0:=ae HB (aq.1 x1).2;have si:=aa (J7 t n HI _ _ ((x2.keep df).keep (af HB)));have fX:=aa (Ak (n:=n) (no:=no) ht);clear ht x1 x2;obtain ⟨q,hq⟩:=aG (gQ t n);obtain ⟨t2,a,b⟩:=q;rw[hq] at si fX;clear hq;simp only at si fX;go_upto_region 7 with (go_at_call 89;(refine si.o.mono ?_);rintro e w6 ⟨v6,rfl,XH,cV⟩;have Fg:=aa XH;have cU:=bh HB cV;have mN:=aa (cV.size);clear cV XH);by_cases hyes:b=true∧¬(k:Int)=no
    case neg=>
     have Mo:=aa (show jT n no 0 c=jT n no (k+1) (c.drop (k+1)) by rw[xA.o,fX.o,if_neg hyes]);cases b with
     |false=>
      go_wp2_with fail;go_roundw
      case rel=>exact ⟨k+1,by omega,by go_num,Mo.o,cU.o⟩
      case measure=>simp[intOf];omega
     |true=>
      have G3:((k:Int) != no)=false:=by simp only[bne_eq_false_iff_eq];exact Classical.byContradiction fun h=>hyes ⟨rfl,h⟩
      clear hyes;go_wp2_with fail;go_roundw
      case rel=>exact ⟨k+1,by omega,by go_num,Mo.o,cU.o⟩
      case measure=>simp[intOf];omega
    case pos=>
     obtain ⟨rfl,hno⟩:=hyes;have G3:((k:Int) != no)=true:=by simp only[bne_iff_ne,ne_eq];exact hno
     have HG:=aa (show r=(c.set k t2,(k:Int),a,true) by rw[← HE.o,xA.o,fX.o,if_pos ⟨rfl,hno⟩]);clear hno;have HWX:=aa (HWT.o _ cU k t2 v6 (NR Fg (fun q hq=>xH q (Nat.le_trans HB.size hq))) (by omega) (by have:=yF.o;omega));obtain ⟨sv,hsv⟩:=(fj Fg).sl;unfold gY at hsv;subst hsv;go_wp2_with (go_at_call 90;(refine HWX.o.mono ?_);rintro e w7 ⟨v7,rfl,Mp,dL⟩;obtain ⟨p7,c7,rfl,_,_⟩:=jo Mp;have Eo:=aa Mp;have fw:=bh cU dL;clear dL Mp);refine au (v:=.tuple #[.slice p7 (c.set k t2).length c7,.int .i64 k,.int .i64 a,.bool true]) ⟨_,by rw[HG.o],by rw[HG.o];exact Eo,fw⟩ ?_;simp[results,results37,go_sem]
end Go.Proofs.YtbigkioechkngaaGreat
namespace Go.Proofs.YtbigkioechkngaaGreat
open Go.RowKit Go.Shelf
open Tryz
variable {s:ByteArray}{pos:Int}{l:List fq}
attribute [local go_sem] Oper.semAt_some
def ng (l:List fq):List (Nat×fq):=(l.zipIdx.map fun x=>(x.2,x.1)).reverse
theorem OT {j:Nat} {x:fq} (hx:l[l.length-1-j]?=some x) (hj:j<l.length):(ng l)[j]?=some (l.length-1-j,x):=by unfold ng;rw[List.getElem?_reverse (by rw[List.length_map,List.length_zipIdx];exact hj),List.length_map,List.length_zipIdx,List.getElem?_map,List.getElem?_zipIdx,hx];simp
theorem OU (l:List fq):(ng l).length=l.length:=by unfold ng;rw[List.length_reverse,List.length_map,List.length_zipIdx]
def ZL (x:Nat×fq):Array Value := #[.int .i64 x.1,.agg #[.int .i64 x.2.1,.string x.2.2]]
theorem ED (n B:Nat) (M₀:Nat→Prop) (l:List fq) (p:Option Addr) (c:Nat) (w:World) (hc:w.cell? ⟨B,0,none⟩=some (.slice p l.length c)) (hB:M₀ B) (hlen:l.length≤maxLen)
 (hrow:∀(i:Nat) (x:fq),l[i]?=some x→∃g o,p=some ⟨g,o,none⟩∧M₀ g∧w.cell? ⟨g,o+i*2,none⟩=some (.int .i64 x.1)∧w.cell? ⟨g,o+i*2+1,none⟩=some (.string x.2)) :
 M9 n prog 165 #[.pointer (some ⟨B,0,none⟩)] ZL M₀ (ng l) w:=by
 intro l' J Jx W hW LX hJ2 hY h0;have c0:=ae hW hc;have bU:=aa (fun (i:Nat) (x:fq) (hx:l[i]?=some x)=>show ∃g o,p=some ⟨g,o,none⟩∧M₀ g∧W.cell? ⟨g,o+i*2,none⟩=some (.int .i64 x.1)∧W.cell? ⟨g,o+i*2+1,none⟩=some (.string x.2) by
  obtain ⟨g,o,h1,h2,h3,h4⟩:=hrow i x hx;exact ⟨g,o,h1,h2,ae hW h3,ae hW h4⟩)
 have H1:=aa LX;have HY:=aa hY;have H0:=aa h0;have yV:=aa hB;have aff:=aa (fun (j:Nat) (x:fq) (hx:l[l.length-1-j]?=some x) (hj:j<l.length)=>OT hx hj);have HLB:=aa (OU l);obtain ⟨N,hN⟩:=aG l.length;rw[hN] at c0 hlen aff HLB;have HN:=aa hN;have JP:=aa c0;have hlc:=fG (n:=N) hlen;clear hc hrow hW LX hJ2 hY h0 hB hN hlen;refine callsIn_of_wp func165 rfl trivial ?_ rfl;simp only[ntmps165,List.size_toArray,List.length_cons,List.length_nil,Nat.reduceAdd,Nat.reduceSub,Array.replicate_succ,Array.replicate_zero,List.push_toArray,List.append_toArray,List.nil_append,List.cons_append];have hw1:wrap64 ((N:Int)-1)=(N:Int)-1:=by unfold wrap64;omega
 gi_wp2_with fail;clear c0 hw1;gi_loopw [3] (fun i wr=>∃k:Nat,k≤N∧i=.int .i64 ((N:Int)-1-k)∧J M₀ ((ng l).take k) wr∧fp M₀ W wr) (fun i _=>(intOf i+1).toNat)
 case atStart=>exact ⟨0,dO,by simp,by rw[List.take_zero];exact H0,fp.refl _ _⟩
 case round=>
  obtain ⟨k,hk,rfl,hj,tj⟩:=hrel;have Ct:=aa hj;have jZ:=aa tj;clear hj tj;by_cases hlt:k<N
  case neg=>
   obtain rfl:k=N:=by omega
   have HT:=aa (show (ng l).take k=ng l from List.take_of_length_le (by rw[HLB.o];exact aT));have hd:decide ((0:Int)≤(k:Int)-1-(k:Int))=false:=decide_eq_false (by omega);gi_wp2_with fail;go_end0;exact ⟨⟨_,rfl⟩,Or.inl ⟨_,by have:=Ct.o;rw[HT.o] at this;exact this⟩⟩
  obtain ⟨q,hq⟩:∃q:Nat,(N:Int)-1-(k:Int)=q:=⟨N-1-k,by omega⟩
  have hqn:N-1-k=q:=by omega
  have HQ:=aa hq;have HQN:=aa hqn;rw[hq];have hqi:(q:Int)<(N:Int):=by omega
  have hq0:(0:Int)≤(q:Int):=by omega
  have hd:decide ((0:Int)≤(q:Int))=true:=decide_eq_true hq0;obtain ⟨⟨x,y⟩,hx⟩:∃x,l[q]?=some x:=⟨_,List.getElem?_eq_getElem (by rw[HN.o];omega)⟩
  obtain ⟨g,o,rfl,Ng,r0,r1⟩:=bU.o q _ hx;have s0:=jZ.cell (a:=⟨g,o+q*2,none⟩) Ng r0;have s1:=jZ.cell (a:=⟨g,o+q*2+1,none⟩) Ng r1;have sb:=jZ.cell (a:=⟨B,0,none⟩) yV JP.o;have Jn:=aa (oM (aff k _ (by rw[hqn];exact hx) hlt));rw[hqn] at Jn;obtain ⟨fn,tmps,assign,body,QZ,hR⟩:=HY.o (n-1) _ _ (q,(x,y)) _ Ct (by rw[← Jn.o];exact List.take_prefix _ _);simp only[ZL] at QZ;clear hx r0 r1 Ng hq hqn;gi_wp2_with fail;refine ⟨fun h=>(by cases h),?_⟩;refine hR.mono ?_;rintro e W4 (⟨rfl,LZ,hk4⟩|⟨rfl,L0⟩)
  ·have Q3:=aa LZ;have Nb:=aa (jZ.trans hk4)
   have hw2:wrap64 ((q:Int)-1)=(q:Int)-1:=by unfold wrap64;omega
   clear LZ hk4 s0 s1 sb;gi_wp2_with fail;go_roundw
   case rel=>exact ⟨k+1,by omega,by have:=HQ.o;simp;omega,by rw[Jn.o];exact Q3,Nb⟩
   case measure=>simp[intOf]
  ·have jK:=aa L0
   clear L0 s0 s1 sb;gi_wp2_with fail;refine bodyPost_ret (results_none rfl _ _ _) rfl ?_;exact ⟨⟨_,rfl⟩,Or.inr ⟨(ng l).take (k+1),List.take_prefix _ _,by rw[Jn.o];exact jK⟩⟩
attribute [local go_sem] Oper.semAt_some
theorem uP (h:∀p∈l,¬p.1=pos):kE l pos s=s:=by
 unfold kE
 induction l generalizing s with
 |nil=>rfl
 |cons a l ih=>rw[List.foldl_cons,if_neg (h a (List.mem_cons_self ..))];exact ih fun p hp=>h p (List.mem_cons_of_mem _ hp)
theorem De (l:List fq):(ng l).map (·.2)=l.reverse:=by unfold ng;rw[List.map_reverse,List.map_map];congr 1;have:(fun x:fq×Nat=>x.1)=((fun x:Nat×fq=>x.2)∘fun x:fq×Nat=>(x.2,x.1)):=rfl;rw[← this];exact List.zipIdx_map_fst 0 l
theorem IB {pre:List (Nat×fq)} {x:Nat×fq} (hp:pre++[x] <+: ng l) (hn:∀y∈pre,¬y.2.1=pos) (hx:x.2.1=pos):kE l pos s=x.2.2:=by
 obtain ⟨r,hr⟩:=hp;have h1:=congrArg (List.map (·.2)) hr;rw[De] at h1;have h2:=congrArg List.reverse h1;rw[List.reverse_reverse] at h2;rw[← h2];simp only[List.map_append,List.map_cons,List.map_nil,List.reverse_append,List.reverse_cons,List.reverse_nil,List.nil_append];unfold kE;rw[List.foldl_append,List.foldl_append,List.foldl_cons,List.foldl_nil,if_pos hx];exact uP (fun p hp=>by
  rw[List.mem_reverse,List.mem_map] at hp;obtain ⟨y,hy,rfl⟩:=hp;exact hn y hy)
theorem EE (hn:∀y∈ng l,¬y.2.1=pos):kE l pos s=s:=by
 apply uP;intro p hp;have:p∈(ng l).map (·.2):=by rw[De,List.mem_reverse];exact hp
 obtain ⟨y,hy,rfl⟩:=List.mem_map.1 this;exact hn y hy
theorem SX (p:Option Addr) (n c:Nat) (w:World):Calls prog 128 #[.slice p n c] w fun e w'=>e=.returned (.func (.func 165) #[] #[.pointer (some ⟨w.heap.size,0,none⟩)])∧w'=w.alloc (.cells #[.slice p n c] 23):=by go_enter func128,ntmps128;go_wp2_with fail;go_ret;exact ⟨rfl,rfl⟩
structure RdI (w:World) (R:Nat) (cs:List Value) (pos:Int) (M:Nat→Prop) (pre:List (Nat×fq)) (W:World):Prop where
 d:aK W w.heap.size cs
 at_:aK W (w.heap.size+1) [.int .i64 pos]
 s:aK W (w.heap.size+1+1) [.string ⟨#[]⟩]
 c:aK W (w.heap.size+1+1+1) [.int .i64 0]
 m:∀b,M b→b<W.heap.size
 below:Bw w W
 no:∀x∈pre,¬x.2.1=pos
theorem lO {w A C:World} {n:Nat} {row:Option Nat} (h:Bw w A) (hs:w.heap.size+n≤A.heap.size) (hg:A.grownBy C row) (hr:∀r,row=some r→w.heap.size+n≤r):Bw w C:=
 ⟨hg.os.trans h.os,hg.tape.trans h.tape,hg.output.trans h.output,Nat.le_trans h.size hg.size,fun k hk=>(hg.block k (by have:=h.size;omega) (fun e=>by have:=hr k e.symm;omega)).trans (h.block k hk)⟩
theorem RdI.kept {w:World} {R:Nat} {cs:List Value} {M M':Nat→Prop} {pre:List (Nat×fq)} {A C:World} {row:Option Nat} (h:RdI w R cs pos M pre A) (hg:A.grownBy C row) (hr:∀r,row=some r→w.heap.size+4≤r) (hn:New M M' A C):RdI w R cs pos M' pre C:=by
 have hne:∀b,b<w.heap.size+4→some b≠row:=fun b hb e=>by have:=hr b e.symm;omega
 refine ⟨h.d.grown hg (hne _ (by omega)),h.at_.grown hg (hne _ (by omega)),h.s.grown hg (hne _ (by omega)),h.c.grown hg (hne _ (by omega)),fun b hm=>?_,lO h.below (by have:=h.c.lt;omega) hg hr,h.no⟩;rcases hn b hm with hm|hm
 ·have:=h.m b hm;have:=hg.size;omega
 ·exact hm.2
def RdX (w:World) (pos:Int) (c:Code) (pre:List (Nat×fq)) (W:World):Prop:=c=.ret∧Bw w W∧∃(tN:List (Nat×fq)) (x:Nat×fq),pre=tN++[x]∧(∀y∈tN,¬y.2.1=pos)∧x.2.1=pos∧aK W (w.heap.size+1+1) [.string x.2.2]∧aK W (w.heap.size+1+1+1) [.int .i64 0]
theorem K0 (d:aO) (pos:Int) (vk vc vp:Value) (w:World) (h:bN w d vk vc vp):Calls prog 81 #[ew d vk vc vp,.int .i64 pos] w fun e w'=>e=.returned (.tuple #[.string (gw d pos).1,.int .i64 (gw d pos).2])∧Bw w w':=by
 have eJ:=aa (fun W (hb:Bw w W)=>wL d vk vc vp W (h.below hb));obtain ⟨pk,ck,rfl,a1,a2⟩:=h.kept.slice;obtain ⟨pc,cc,rfl,b1,b2⟩:=h.cache.slice;obtain ⟨pp,cp,rfl,_,_⟩:=h.keep.slice;have HK:=aa h.kept.cells;have HC:=aa h.cache.cells;obtain ⟨⟨q1,q2⟩,hq⟩:∃q,gw d pos=q:=⟨_,rfl⟩
 rw[hq];have HQ:=aa hq;obtain ⟨m,hm⟩:=aG (fZ d);rw[hm] at eJ;have HM:=aa hm;obtain ⟨kept,cache,ah,keep,dead⟩:=d;simp only at HK HC a1 b1 ⊢;unfold ew at *;simp only at eJ ⊢;obtain ⟨N,hN⟩:=aG kept.length;obtain ⟨L,hL⟩:=aG keep.length;have Qq:=aa (fun (W:World)=>wK pk pc pp N ck cache.length cc L cp ah pos dead W (by omega));have tk:=aa (show cache.length≤maxLen by omega);rw[hN,hL] at eJ ⊢;rw[hN] at a1;have HN:=aa hN;have lN:=fG (n:=N) a2;have HP:=aa h;clear h hq hm hN hL a1 a2 b1 b2;obtain ⟨W1,hW1⟩:=aG ((((w.alloc (.cells #[.slice pk N ck,.slice pc cache.length cc,.int .i64 ah,.slice pp L cp,.bool dead] 26)).alloc (.cells #[.int .i64 pos] 3)).alloc (.cells #[.string ⟨#[]⟩] 9)).alloc (.cells #[.int .i64 0] 33));have aU:=aa (show aK W1 w.heap.size [.slice pk N ck,.slice pc cache.length cc,.int .i64 ah,.slice pp L cp,.bool dead]∧aK W1 (w.heap.size+1) [.int .i64 pos]∧aK W1 (w.heap.size+1+1) [.string ⟨#[]⟩]∧aK W1 (w.heap.size+1+1+1) [.int .i64 0]∧Bw w W1 by
  rw[← hW1];obtain ⟨h1,h2,h3,h4⟩:=NW w [.slice pk N ck,.slice pc cache.length cc,.int .i64 ah,.slice pp L cp,.bool dead] [.int .i64 pos] [.string ⟨#[]⟩] 26 3 9;refine ⟨h1.alloc _,h2.alloc _,h3.alloc _,?_,h4.alloc (by simp;omega) _⟩;have:=aK.new (((w.alloc (.cells #[.slice pk N ck,.slice pc cache.length cc,.int .i64 ah,.slice pp L cp,.bool dead] 26)).alloc (.cells #[.int .i64 pos] 3)).alloc (.cells #[.string ⟨#[]⟩] 9)) [.int .i64 0] 33;rw[World.size_alloc,World.size_alloc,World.size_alloc] at this;exact this)
 have ee:=aa hW1;clear hW1;rw[← callsIn_wide (n:=6)];refine callsIn_of_wp_marks func81 rfl trivial ?_ rfl;simp only[ntmps81,List.size_toArray,List.length_cons,List.length_nil,Nat.reduceAdd,Nat.reduceSub,Array.replicate_succ,Array.replicate_zero,List.push_toArray,List.append_toArray,List.nil_append,List.cons_append];obtain ⟨x0,x1,x2,x3,x4⟩:=aU.1.five;have kK:=ee.o;cases m with
 |false=>
  have HF:=aa (show (⟨#[]⟩:ByteArray)=q1∧(1:Int)=q2 by
   have h:=HQ.o;rw[RA HM.o] at h;injection h with h1 h2;exact ⟨h1,h2⟩)
  gi_wp2_with fail;refine ⟨trivial,?_⟩;refine (callsIn_wide.2 (eJ _ aU.2.2.2.2)).mono ?_;rintro e w2 ⟨rfl,hb⟩;have CD:=aa (aU.1.below hb);have Fl:=aa (aU.2.1.below hb);have OH:=aa (aU.2.2.1.below hb);have pB:=aa (aU.2.2.2.1.below hb);have bS:=aa (ak aU.2.2.2.2 hb);clear hb x0 x1 x2 x3 x4 kK;obtain ⟨x0,x1,x2,x3,x4⟩:=CD.five;have xa:=Fl.one;have s0:=OH.one;have sf:=OH.free 0;have c0:=pB.one;have cf:=pB.free 0;gi_wp2_with fail;have ZM:=(OH.set 0 (.string ⟨#[]⟩)).far (b':=w.heap.size+1+1+1) (by omega) 0 (.int .i64 1);have ZN:=(pB.far (b':=w.heap.size+1+1) (by omega) 0 (.string ⟨#[]⟩)).set 0 (.int .i64 1);have hsc:=ZM.cell (j:=0) rfl;have hcc:=ZN.cell (j:=0) rfl;exact ⟨.tuple #[.string ⟨#[]⟩,.int .i64 1],by simp[results,results81,go_sem,hsc,hcc],zX HF.o.1 HF.o.2,(bS.o.setCell (p:=⟨w.heap.size+1+1,0,none⟩) (by show w.heap.size≤w.heap.size+1+1;omega) _).setCell (p:=⟨w.heap.size+1+1+1,0,none⟩) (by show w.heap.size≤w.heap.size+1+1+1;omega) _⟩
 |true=>
 gi_wp2_with fail;refine ⟨trivial,?_⟩;refine (callsIn_wide.2 (eJ _ aU.2.2.2.2)).mono ?_;rintro e w2 ⟨rfl,hb⟩;have CD:=aa (aU.1.below hb);have Fl:=aa (aU.2.1.below hb);have OH:=aa (aU.2.2.1.below hb);have pB:=aa (aU.2.2.2.1.below hb);have bS:=aa (ak aU.2.2.2.2 hb);clear hb x0 x1 x2 x3 x4 kK;obtain ⟨x0,x1,x2,x3,x4⟩:=CD.five;have xa:=Fl.one;have s0:=OH.one;have sf:=OH.free 0;have c0:=pB.one;have cf:=pB.free 0;cases dead with
 |true=>
  have HF:=aa (show (⟨#[]⟩:ByteArray)=q1∧(90:Int)=q2 by
   have h:=HQ.o;rw[J9 HM.o rfl] at h;injection h with h1 h2;exact ⟨h1,h2⟩)
  gi_wp2_with fail;have ZM:=(OH.set 0 (.string ⟨#[]⟩)).far (b':=w.heap.size+1+1+1) (by omega) 0 (.int .i64 90);have ZN:=(pB.far (b':=w.heap.size+1+1) (by omega) 0 (.string ⟨#[]⟩)).set 0 (.int .i64 90);have hsc:=ZM.cell (j:=0) rfl;have hcc:=ZN.cell (j:=0) rfl;exact ⟨.tuple #[.string ⟨#[]⟩,.int .i64 90],by simp[results,results81,go_sem,hsc,hcc],zX HF.o.1 HF.o.2,(bS.o.setCell (p:=⟨w.heap.size+1+1,0,none⟩) (by show w.heap.size≤w.heap.size+1+1;omega) _).setCell (p:=⟨w.heap.size+1+1+1,0,none⟩) (by show w.heap.size≤w.heap.size+1+1+1;omega) _⟩
 |false=>
 by_cases pM:0≤pos∧pos<N
 case neg=>
  have HF:=aa (show (⟨#[]⟩:ByteArray)=q1∧(1:Int)=q2 by
   have h:=HQ.o;rw[NB HM.o rfl (by simp only;rw[HN.o];omega)] at h;injection h with h1 h2;exact ⟨h1,h2⟩)
  have HE:=aa (show decide (0≤pos∧pos<(N:Int))=false from decide_eq_false pM);clear pM;gi_wp2_with fail;refine ⟨trivial,?_⟩;refine (callsIn_wide.2 (Qq _)).mono ?_;rintro e w3 ⟨rfl,hb⟩;rw[HE.o];have Uu:=aa (CD.below hb);have SJ:=aa (Fl.below hb);have OM:=aa (OH.below hb);have FO:=aa (pB.below hb);have dF:=bh bS hb;clear hb x0 x1 x2 x3 x4 xa s0 sf c0 cf;obtain ⟨x0,x1,x2,x3,x4⟩:=Uu.five;have xa:=SJ.one;have s0:=OM.one;have sf:=OM.free 0;have c0:=FO.one;have cf:=FO.free 0;gi_wp2_with fail;have ZM:=(OM.set 0 (.string ⟨#[]⟩)).far (b':=w.heap.size+1+1+1) (by omega) 0 (.int .i64 1);have ZN:=(FO.far (b':=w.heap.size+1+1) (by omega) 0 (.string ⟨#[]⟩)).set 0 (.int .i64 1);have hsc:=ZM.cell (j:=0) rfl;have hcc:=ZN.cell (j:=0) rfl;exact ⟨.tuple #[.string ⟨#[]⟩,.int .i64 1],by simp[results,results81,go_sem,hsc,hcc],zX HF.o.1 HF.o.2,(dF.o.setCell (p:=⟨w.heap.size+1+1,0,none⟩) (by show w.heap.size≤w.heap.size+1+1;omega) _).setCell (p:=⟨w.heap.size+1+1+1,0,none⟩) (by show w.heap.size≤w.heap.size+1+1+1;omega) _⟩
 case pos=>
  obtain ⟨K,rfl⟩:∃K:Nat,pos=K:=⟨pos.toNat,by omega⟩
  have HE:=aa (show decide (0≤(K:Int)∧(K:Int)<(N:Int))=true from decide_eq_true pM);obtain ⟨u,hu⟩:=fx (l:=kept) (k:=K) (by rw[HN.o];omega);have HLP:=aa (show kE cache K u=q1∧(0:Int)=q2 by
   have h:=HQ.o;rw[RB HM.o rfl hu] at h;injection h with h1 h2;exact ⟨h1,h2⟩)
  have Ue:(K:Int)<(N:Int):=pM.2;have hK0:(0:Int)≤(K:Int):=pM.1;have HU:=aa hu;clear pM hu;gi_wp2_with fail;refine ⟨trivial,?_⟩;refine (callsIn_wide.2 (Qq _)).mono ?_;rintro e w3 ⟨rfl,hb⟩;rw[HE.o];have Uu:=aa (CD.below hb);have SJ:=aa (Fl.below hb);have OM:=aa (OH.below hb);have FO:=aa (pB.below hb);have dF:=bh bS hb;clear hb x0 x1 x2 x3 x4 xa s0 sf c0 cf;obtain ⟨x0,x1,x2,x3,x4⟩:=Uu.five;have xa:=SJ.one;have s0:=OM.one;have sf:=OM.free 0;have c0:=FO.one;have cf:=FO.free 0;gi_wp2_with fail;refine ⟨trivial,?_⟩;refine (callsIn_wide.2 (SX _ _ _ _)).mono ?_;rintro e w4 ⟨rfl,rfl⟩;obtain ⟨W5,Df⟩:=aG (w3.alloc (.cells #[.slice pc cache.length cc] 23));have aR:Bw w3 W5:=by rw[← Df];exact ar
  have HD5:=aa (Uu.below aR);have yP:=aa (SJ.below aR);have HS5:=aa (OM.below aR);have Rx:=aa (FO.below aR);have bp:=bh dF aR;have yX:=aa (show aK W5 w3.heap.size [.slice pc cache.length cc] by rw[← Df];exact aK.new w3 _ _);rw[Df];clear aR Df x0 x1 x2 x3 x4 xa s0 sf c0 cf;gi_wp2_with fail;have hseq:=ED 5 w3.heap.size (fun b=>b<W5.heap.size) cache pc cc W5 yX.one yX.lt tk (fun i x hx=>by
   obtain ⟨g,o,h1,h2⟩:=HC.o i x hx;have e0:=h2 0 _ rfl;have e1:=h2 1 _ rfl;have hl:=World.block_lt_of_cell? _ _ e0;exact ⟨g,o,h1,Nat.lt_of_lt_of_le hl bp.size,ae bp e0,ae bp e1⟩)
  have Xu:w.heap.size+4≤W5.heap.size:=by have:=Rx.lt;omega
  refine ij (n:=6) (gf:=165) (lb := #[.pointer (some ⟨w3.heap.size,0,none⟩)]) (by omega) rfl (enters_of func165 (by kernel_rfl) rfl) hseq ?hM (fun _=>rfl) (fun M pre W=>RdI w 0 [.slice pk N ck,.slice pc cache.length cc,.int .i64 ah,.slice pp L cp,.bool false] K M pre W)
   (RdX w K) ?i1 ?i2 ?x1 ?x2 ?start
   (fun _ x a' W=>∃b7,w.heap.size+4≤b7∧aK W b7 [.int .i64 x.2.1,.string x.2.2]∧a'={tmps := #[.agg #[.slice pk N ck,.slice pc cache.length cc,.int .i64 ah,.slice pp L cp,.bool false],.int .i64 K,.pointer (some ⟨w.heap.size,0,none⟩),.pointer (some ⟨w.heap.size+1,0,none⟩),.pointer (some ⟨w.heap.size+1+1,0,none⟩),.pointer (some ⟨w.heap.size+1+1+1,0,none⟩),uu,.pointer (some ⟨b7,0,none⟩),.agg #[.slice pk N ck,.slice pc cache.length cc,.int .i64 ah,.slice pp L cp,.bool false],.bool true,.bool false,.pointer (some ⟨w.heap.size,4,none⟩),.bool false,.agg #[.slice pk N ck,.slice pc cache.length cc,.int .i64 ah,.slice pp L cp,.bool false],.int .i64 K,.bool true,.bool false,.pointer (some ⟨w.heap.size,1,none⟩),.slice pc cache.length cc,.func (.func 165) #[] #[.pointer (some ⟨w3.heap.size,0,none⟩)],.int .i64 x.1,.agg #[.int .i64 x.2.1,.string x.2.2],uu,uu,uu,uu,uu,uu,uu,uu,uu,uu,uu],defers:=[]}) ?ax ?assign ?body ?done ?stop
  case hM=>exact fun b hb=>hb
  case i1=>exact fun M M' s A B h hg hn=>h.kept hg (fun r e=>by cases e) hn
  case i2=>exact fun M s A B r o h hg hr ho hc=>h.kept hg (fun r' e=>by cases e;omega) (fun b hb=>.inl hb)
  case x1=>rintro c s A B ⟨rfl,h1,tN,x,h2,h3,h4,h5,h6⟩ hg;exact ⟨rfl,lO (n:=4) h1 (by have:=h6.lt;omega) hg (fun r e=>by cases e),tN,x,h2,h3,h4,h5.grown hg (by simp),h6.grown hg (by simp)⟩
  case x2=>
   rintro c s A B r o ⟨rfl,h1,tN,x,h2,h3,h4,h5,h6⟩ hg hr ho hc;have hne:∀k,k<w.heap.size+4→some k≠some r:=fun k hk e=>by injection e with e;omega
   exact ⟨rfl,lO (n:=4) h1 (by have:=h6.lt;omega) hg (fun r' e=>by cases e;omega),tN,x,h2,h3,h4,h5.grown hg (hne _ (by omega)),h6.grown hg (hne _ (by omega))⟩
  case start=>exact ⟨HD5,yP,HS5,Rx,fun b hb=>hb,bp,fun x hx=>by simp at hx⟩
  case ax=>rintro M x a' A B r o ⟨b7,h0,h1,h2⟩ hg hr ho hc;refine ⟨b7,h0,h1.grown hg (fun e=>?_),h2⟩;injection e with e;subst e;obtain ⟨T,h1⟩:=h1;rw[h1] at ho;injection ho with ho;subst ho;cases hc
  case assign=>
   intro l M pre x W KK hi hK
   dsimp only[ZL]
   have hlt:=hi.c.lt;gi_wp2;exact hK _ _ (World.grownBy_alloc _ _ _) ⟨_,by omega,aK.new W _ _,rfl⟩
  case body=>
   rintro l M pre x a' W hi ⟨b7,dL,fI,rfl⟩ wE;have HI:=aa hi;have sB:=aa fI;obtain ⟨p0,p1⟩:=fI.two;have xa:=hi.at_.one;have s0:=hi.s.one;have sf:=hi.s.free 0;have c0:=hi.c.one;have cf:=hi.c.free 0;clear hi fI hseq;by_cases hh:x.2.1=(K:Int)
   ·have hd:(x.2.1==(K:Int))=true:=by simpa using hh
    have HH:=aa hh;clear hh;gi_wp2;refine ⟨((KeepsOthers.setCell _ _ _).from _).trans ((KeepsOthers.setCell _ _ _).from _),rfl,(HI.below.setCell (p:=⟨w.heap.size+1+1,0,none⟩) (by show w.heap.size≤w.heap.size+1+1;omega) _).setCell (p:=⟨w.heap.size+1+1+1,0,none⟩) (by show w.heap.size≤w.heap.size+1+1+1;omega) _,pre,x,rfl,HI.no,HH,(HI.s.set 0 _).far (by omega) _ _,(HI.c.far (by omega) _ _).set 0 _⟩
   ·have hd:(x.2.1==(K:Int))=false:=by simpa using hh
    have HH:=aa hh;clear hh;gi_wp2;refine ⟨KeepsFrom.refl _ _,fp.refl _ _,HI.d,HI.at_,HI.s,HI.c,HI.m,HI.below,fun y hy=>?_⟩;rw[List.mem_append,List.mem_singleton] at hy;rcases hy with hy|rfl
    ·exact HI.no y hy
    ·exact HH.o
  case done=>
   rintro D M W hD hi hK;have HI:=aa hi;obtain ⟨x0,x1,x2,x3,x4⟩:=hi.d.five;have xa:=hi.at_.one;have s0:=hi.s.one;have sf:=hi.s.free 0;have c0:=hi.c.one;have cf:=hi.c.free 0;obtain ⟨g,o,rfl,hcell⟩:=HK.o K _ HU.o;have r0:=ae HI.below (hcell 0 _ rfl);simp only[Nat.mul_one,Nat.add_zero] at r0;have HF:=aa (show u=q1∧(0:Int)=q2 from ⟨by rw[← HLP.o.1,EE HI.o.no],HLP.2⟩);clear hi hseq hcell;gi_wp2;have ZM:=(HI.s.set 0 (.string u)).far (b':=w.heap.size+1+1+1) (by omega) 0 (.int .i64 0);have ZN:=(HI.c.far (b':=w.heap.size+1+1) (by omega) 0 (.string u)).set 0 (.int .i64 0);have hK2:((W.setCell ⟨w.heap.size+1+1,0,none⟩ (.string u)).setCell ⟨w.heap.size+1+1+1,0,none⟩ (.int .i64 0)).heap[D]?=some (.deferred (some [])):=by rw[Below.heap_setCell _ _ _ D (by show D≠w.heap.size+1+1+1;omega),Below.heap_setCell _ _ _ D (by show D≠w.heap.size+1+1;omega)];exact hK
   refine ⟨by simp,.inl ⟨_,_,rfl,run_takeDeferred hK2,?_⟩⟩;have hsc:=(ZM.grown (grownBy_putObj' _ D (.deferred none)) (by intro e;injection e with e;omega)).cell (j:=0) rfl;have hcc:=(ZN.grown (grownBy_putObj' _ D (.deferred none)) (by intro e;injection e with e;omega)).cell (j:=0) rfl;exact ⟨.tuple #[.string u,.int .i64 0],by simp[results,results81,go_sem,hsc,hcc],zX HF.o.1 HF.o.2,((HI.o.below.setCell (p:=⟨w.heap.size+1+1,0,none⟩) (by show w.heap.size≤w.heap.size+1+1;omega) _).setCell (p:=⟨w.heap.size+1+1+1,0,none⟩) (by show w.heap.size≤w.heap.size+1+1+1;omega) _).trans (belowK_b (w:=w) aT _ D _ _ (by omega) hK2 rfl rfl)⟩
  case stop=>rintro D c pre W hD hp ⟨rfl,h1,tN,x,rfl,h3,h4,h5,h6⟩ hK;have HF:=aa (show x.2.2=q1∧(0:Int)=q2 from ⟨by rw[← HLP.o.1,IB hp h3 h4],HLP.2⟩);have H1:=aa h1;have H5:=aa h5;have H6:=aa h6;clear h1 h5 h6 hseq hp h3 h4;gi_wp2;refine ⟨by simp,.inl ⟨_,_,rfl,run_takeDeferred hK,?_⟩⟩;have hsc:=(H5.grown (grownBy_putObj' _ D (.deferred none)) (by intro e;injection e with e;omega)).cell (j:=0) rfl;have hcc:=(H6.grown (grownBy_putObj' _ D (.deferred none)) (by intro e;injection e with e;omega)).cell (j:=0) rfl;exact ⟨.tuple #[.string x.2.2,.int .i64 0],by simp[results,results81,go_sem,hsc,hcc],zX HF.o.1 HF.o.2,H1.o.trans (belowK_b (w:=w) aT _ D _ _ (by omega) hK rfl rfl)⟩
end Go.Proofs.YtbigkioechkngaaGreat
namespace Go.Proofs.YtbigkioechkngaaGreat
open Go.RowKit Tryz
theorem ZW (W:World) (n:Nat) (hn:n≤1000):∃w1,(Instr.makeSlice 24 (.int .i64 0) (.int .i64 n)).run prog W=.ok (.slice (some ⟨W.heap.size,0,none⟩) 0 n) w1∧w1.ownsRow W.heap.size 4 1 (.slice (some ⟨W.heap.size,0,none⟩) 0 n) 0 (bQ [])∧Bw W w1:=by obtain ⟨i0,hi,hz0,hz1,hz2⟩:=info_parts qy;obtain ⟨w1,jJ,hown,hg⟩:=run_make_own (P:=prog) W W.heap.size 24 4 i0 (.bool false) 1 underlying24 hi hz0 hz1 .i64 .i64 n (by rw[hz2];omega) (by unfold maxLen;omega) aT;exact ⟨w1,jJ,hown,aH.grown hg aT (fun k e=>by cases e)⟩
theorem O0 (x:List (List aj)) (v1:Value) (w:World) (h1:dH w v1 x) (hl:x.length≤1000):Calls prog 118 #[v1,.func (.func 119) #[] #[]] w fun e w'=>∃v,e=.returned v∧w'.ownsRow w.heap.size 4 1 v (x.map dE).length (bQ (x.map dE))∧Bw w w':=by
 obtain ⟨p,cp,rfl,a1,a2,ha⟩:=h1;have HA:=aa ha;obtain ⟨N,hN⟩:=aG x.length;rw[hN] at a1 hl;rw[hN];have hlc:(N:Int)≤9223372036854775807:=by omega
 have HN:=aa hN;have rC:=aa hl;obtain ⟨w6,jJ,hrow,cV⟩:=ZW w N hl;have AQ:=aa hrow;have cU:=aa cV;clear ha hN a1 a2 hrow cV hl;go_enter func118,ntmps118;go_wp2_with fail;clear jJ;go_loopw [13,5,7] (fun i o _ wr=>∃(k:Nat) (po:Option Addr) (co:Nat),k≤N∧i=.int .i64 k∧o=.slice po k co∧wr.ownsRow w.heap.size 4 1 o k (bQ ((x.take k).map dE))∧Bw w wr) (fun i _ _ _=>N-(intOf i).toNat)
 case atStart=>exact ⟨0,_,_,dO,rfl,rfl,AQ,cU⟩
 case round=>
  obtain ⟨k,po,co,hk,rfl,rfl,hrow,hb⟩:=hrel;have bU:=aa hrow;have HB:=aa hb;clear hrow hb;by_cases hlt:k<N
  case neg=>
   obtain rfl:k=N:=by omega
   have kI:=aa (show x.take k=x from List.take_of_length_le (by rw[HN.o];exact aT));go_wp2_with fail;go_ret;have h:=bU.o;rw[kI.o] at h;exact ⟨_,rfl,by rw[List.length_map,HN.o];exact h,HB⟩
  case pos=>
   have fN:(k:Int)<(N:Int):=(by omega);obtain ⟨s,hs⟩:=fx (l:=x) (k:=k) (by rw[HN.o];omega);obtain ⟨g,o,u1,rfl,x1,x2⟩:=HA.o k _ hs;obtain ⟨su,rfl⟩:=x2.sl;unfold gY at *;have r0:=ae HB x1;have eJ:=aa (nZ s _ wr (x2.keep (af HB)));have fX:=aa (show (x.take (k+1)).map dE=(x.take k).map dE++[dE s] by rw[List.take_add_one,hs,Option.toList_some,List.map_append];rfl);obtain ⟨bq,yA⟩:∃b,dE s=b:=⟨_,rfl⟩
   rw[yA] at eJ fX;clear hs x1 x2 yA;go_wp2_with (first|(go_at_call 119;(with_reducible refine eJ.o.mono ?_);(rintro e w2 ⟨rfl,hb⟩);(obtain ⟨g2,SP,w3,hrun,bY⟩:=qz w2 w.heap.size k _ ((x.take k).map dE) bq (aL bU.o hb) (by have:=rC.o;omega) (Nat.le_trans HB.o.size hb.size));(have dJ:=aa hrun);(have yD:=aa bY.row);(have dF:=aa (show Bw w w3 from (ak HB.o hb).trans bY.below));(clear hb hrun bY))|(at_builtin;refine Lib.wpList_append_run _ rfl _ _ _ _ rfl _ _ rfl rfl _ _ dJ.o ?_));go_roundw
   case rel=>exact ⟨k+1,_,_,by omega,by go_num,rfl,by rw[fX.o,← qA];exact yD.o,dF.o⟩
   case measure=>simp[intOf];omega
theorem K6 (l:List Bool) (v1:Value) (w:World) (h1:dy w v1 l):Calls prog 156 #[v1,.bool false] w fun e w'=>(∃i,e=.returned (.int .i64 i)∧(decide (0≤i)=!l.all id))∧Bw w w':=by
 obtain ⟨p,cp,rfl,a1,a2⟩:=h1.slice;have HA:=aa h1.cells;obtain ⟨N,hN⟩:=aG l.length;rw[hN] at a1;rw[hN];have hlc:=fG (n:=N) a2;have HN:=aa hN;clear h1 hN a1 a2;go_enter func156,ntmps156;go_wp2_with fail;go_loopw [8,5] (fun i _ wr=>∃k:Nat,k≤N∧i=.int .i64 k∧(∀(j:Nat) b,j<k→l[j]?=some b→b=true)∧Bw w wr) (fun i _ _=>N-(intOf i).toNat)
 case atStart=>exact ⟨0,dO,rfl,fun j _ hj=>by omega,aH⟩
 case round=>
  obtain ⟨k,hk,rfl,hall,hb⟩:=hrel;have ed:=aa hall;have HB:=aa hb;clear hall hb;by_cases hlt:k<N
  case neg=>
   obtain rfl:k=N:=by omega
   have HF:=aa (show l.all id=true from List.all_eq_true.2 fun b hb=>by
    obtain ⟨j,hj⟩:=List.getElem?_of_mem hb;exact ed j b (by have:=(List.getElem?_eq_some_iff.1 hj).1;rw[HN.o] at this;exact this) hj)
   go_wp2_with fail;go_ret;exact ⟨⟨-1,rfl,by rw[HF.o];rfl⟩,HB⟩
  case pos=>
   have fN:(k:Int)<(N:Int):=(by omega);obtain ⟨b,hs⟩:∃s,l[k]?=some s:=⟨_,List.getElem?_eq_getElem (by rw[HN.o];omega)⟩
   obtain ⟨g,o,rfl,x1⟩:=HA.o k _ hs;have r0:=ae HB x1;have HS:=aa hs;clear hs x1;cases b with
   |false=>have HF:=aa (show l.all id=false by rw[← Bool.not_eq_true,List.all_eq_true];intro h;have:=h false (List.mem_of_getElem? HS);cases this);go_wp2_with fail;go_ret;exact ⟨⟨k,rfl,by rw[HF.o];exact decide_eq_true (by omega)⟩,HB⟩
   |true=>
    go_wp2_with fail;go_roundw
    case rel=>
     refine ⟨k+1,by omega,by go_num,fun j b hj hb=>?_,HB.o⟩;by_cases e:j=k
     ·subst e;rw[HS.o] at hb;cases hb;rfl
     ·exact ed j b (by omega) hb
    case measure=>simp[intOf];omega
theorem B3 (l:List Bool) (v1:Value) (w:World) (h1:dy w v1 l):Calls prog 117 #[v1,.bool false] w fun e w'=>e=.returned (.bool (!l.all id))∧Bw w w':=by have HI:=aa (K6 l v1 w h1);obtain ⟨p,cp,rfl,_,_⟩:=h1.slice;clear h1;go_enter func117,ntmps117;go_wp2_with (go_at_call 156;(refine HI.o.mono ?_);(rintro e w2 ⟨⟨i,rfl,hi⟩,hb⟩);have HII:=aa hi;have HB:=aa hb;clear hi hb);go_ret;exact ⟨aN HII,HB⟩
theorem tO (x:List (List aj)) (v1:Value) (w:World) (h1:dH w v1 x):Calls prog 63 #[v1] w fun e w'=>e=.returned (.bool (cI x))∧Bw w w':=by
 have S7:=aa (fun (hl:x.length≤1000)=>O0 x v1 w h1 hl);obtain ⟨p,cp,rfl,a1,a2,_⟩:=h1;obtain ⟨N,hN⟩:=aG x.length;have HF:=aa (show cI x=(x.all dE&&decide (1≤N∧N≤1000)) by unfold cI;rw[hN]);rw[hN] at a1 S7;rw[hN];have hlc:=fG (n:=N) a2;clear hN a1 a2;by_cases pM:1≤N∧N≤1000
 case neg=>
  have HE:=aa (show cI x=false by rw[HF.o,decide_eq_false pM,Bool.and_false]);have hc:(decide ((N:Int)<1)=true∧N=0)∨(decide ((N:Int)<1)=false∧decide (1000<(N:Int))=true∧decide (1000<N)=true):=by
   by_cases h0:N=0
   ·left;exact ⟨decide_eq_true (by omega),h0⟩
   ·right;exact ⟨decide_eq_false (by omega),decide_eq_true (by omega),decide_eq_true (by omega)⟩
  clear pM;rcases hc with ⟨h1,rfl⟩|⟨h1,h2,h3⟩
  ·go_enter func63,ntmps63
   go_wp2_with fail;go_ret;exact ⟨aN HE.o.symm,aH⟩
  ·have hN0:(N==0)=false:=by simp at h1 ⊢;omega
   have h4:decide (N<1)=false:=by simp at h1 ⊢;omega
   go_enter func63,ntmps63;go_wp2_with fail;go_ret;exact ⟨aN HE.symm,aH⟩
 case pos=>
  have HE:=aa (show cI x=(x.map dE).all id by rw[HF.o,decide_eq_true pM,Bool.and_true,List.all_map];rfl);have akB:=aa (S7.o pM.2);have h1:decide ((N:Int)<1)=false:=decide_eq_false (by omega);have h2:decide (1000<(N:Int))=false:=decide_eq_false (by omega);have h3:decide (1000<N)=false:=decide_eq_false (by omega);have hN0:(N==0)=false:=by simp;omega
  have h4:decide (N<1)=false:=decide_eq_false (by omega);clear pM S7;go_enter func63,ntmps63;go_wp2_with (first|(go_at_call 118;(with_reducible refine akB.o.mono ?_);(rintro e w2 ⟨v2,rfl,hr,hb⟩);have O1:=aa (eD rfl hr);have HB:=aa hb;clear hb hr)|(go_at_call 117;(with_reducible refine (B3 _ _ _ O1.o).mono ?_);(rintro e w3 ⟨rfl,hb⟩);have dF:=bh HB hb;clear hb));go_ret;exact ⟨aN (by rw[HE.o];simp),dF⟩
def lG (a b:List ByteArray):Bool:=decide (a=b)
theorem Lr (x y:List ByteArray) (v1 v2:Value) (w:World) (h1:dw w v1 1 kX x) (h2:dw w v2 1 kX y):Calls prog 99 #[v1,v2] w fun e w'=>e=.returned (.bool (lG x y))∧Bw w w':=by
 obtain ⟨p,cp,rfl,a1,a2⟩:=h1.slice;obtain ⟨q,cq,rfl,b1,b2⟩:=h2.slice;have HA:=aa h1.cells;have jl:=aa h2.cells;clear h1 h2;obtain ⟨N,hN⟩:=aG x.length;obtain ⟨M,hM⟩:=aG y.length;rw[hN] at a1;rw[hM] at b1;rw[hN,hM];have hlc:=fG (n:=N) a2;have hld:=fG (n:=M) b2;have HN:=aa hN;have HM:=aa hM;clear hN hM a1 a2 b1 b2;by_cases hNM:N=M
 case neg=>
  have hne:((N:Int) != (M:Int))=true:=by rw[bne_iff_ne];omega
  have HF:=aa (show lG x y=false by
   unfold lG;rw[decide_eq_false_iff_not];intro h;exact hNM (by rw[← HN.o,← HM.o,h]))
  clear hNM;go_enter func99,ntmps99;go_wp2_with fail;go_ret;exact ⟨aN HF.symm,aH⟩
 subst hNM;have hne:((N:Int) != (N:Int))=false:=by simp
 go_enter func99,ntmps99;go_wp2_with fail;go_loopw [5] (fun i wr=>∃k:Nat,k≤N∧i=.int .i64 k∧(∀(j:Nat),j<k→x[j]?=y[j]?)∧Bw w wr) (fun i _=>N-(intOf i).toNat)
 case atStart=>exact ⟨0,dO,rfl,fun j hj=>by omega,aH⟩
 case round=>
  obtain ⟨k,hk,rfl,hall,hb⟩:=hrel;have ed:=aa hall;have HB:=aa hb;clear hall hb;by_cases hlt:k<N
  case neg=>
   obtain rfl:k=N:=by omega
   have HF:=aa (show lG x y=true by
    unfold lG;rw[decide_eq_true_eq];apply List.ext_getElem?;intro j;by_cases hj:j<k
    ·exact ed j hj
    ·rw[List.getElem?_eq_none (by rw[HN.o];omega),List.getElem?_eq_none (by rw[HM.o];omega)])
   go_wp2_with fail;go_ret;exact ⟨aN HF.symm,HB⟩
  have fN:(k:Int)<(N:Int):=by omega
  obtain ⟨s,hs⟩:=fx (l:=x) (k:=k) (by rw[HN.o];omega);obtain ⟨t,ht⟩:=fx (l:=y) (k:=k) (by rw[HM.o];omega);obtain ⟨g,o,rfl,x1⟩:=HA.o k s hs;obtain ⟨g',o',rfl,y1⟩:=jl.o k t ht;replace x1:=x1 0 _ rfl;replace y1:=y1 0 _ rfl;rw[Nat.mul_one,Nat.add_zero] at x1 y1;have r1:=ae HB x1;have r2:=ae HB y1;have HS:=aa hs;have HT:=aa ht;clear hs ht x1 y1;by_cases hst:s=t
  ·subst hst
   have zL:=aa (show ∀(j:Nat),j<k+1→x[j]?=y[j]? from fun j hj=>by
    by_cases e:j=k
    ·rw[e,HS.o,HT.o]
    ·exact ed j (by omega))
   have WH:(s.toList==s.toList)=true:=(by simp);go_wp2_with fail;go_quiet (fail);go_wp2_with fail;go_roundw
   case rel=>exact ⟨k+1,by omega,by go_num,zL.o,az HB.o _⟩
   case measure=>simp[intOf];omega
  ·have HF:=aa (show lG x y=false by
    unfold lG;rw[decide_eq_false_iff_not];intro h;have:=HS.o;rw[h,HT.o] at this;injection this with this;exact hst this.symm)
   have WH:(s.toList==t.toList)=false:=by rw[beq_eq_false_iff_ne];intro e;rw[ByteArray.toList_eq,ByteArray.toList_eq] at e;exact hst (Go.WideShapes.bytes_inj e)
   clear hst;go_wp2_with fail;go_quiet (fail);go_wp2_with fail;go_ret;exact ⟨aN HF.symm,az HB _⟩
def pj (a b:List Bool):Bool:=decide (a=b)
theorem Pw (x y:List Bool) (v1 v2:Value) (w:World) (h1:dy w v1 x) (h2:dy w v2 y):Calls prog 100 #[v1,v2] w fun e w'=>e=.returned (.bool (pj x y))∧Bw w w':=by
 obtain ⟨p,cp,rfl,a1,a2⟩:=h1.slice;obtain ⟨q,cq,rfl,b1,b2⟩:=h2.slice;have HA:=aa h1.cells;have jl:=aa h2.cells;clear h1 h2;obtain ⟨N,hN⟩:=aG x.length;obtain ⟨M,hM⟩:=aG y.length;rw[hN] at a1;rw[hM] at b1;rw[hN,hM];have hlc:=fG (n:=N) a2;have hld:=fG (n:=M) b2;have HN:=aa hN;have HM:=aa hM;clear hN hM a1 a2 b1 b2;by_cases hNM:N=M
 case neg=>
  have hne:((N:Int) != (M:Int))=true:=by rw[bne_iff_ne];omega
  have HF:=aa (show pj x y=false by
   unfold pj;rw[decide_eq_false_iff_not];intro h;exact hNM (by rw[← HN.o,← HM.o,h]))
  clear hNM;go_enter func100,ntmps100;go_wp2_with fail;go_ret;exact ⟨aN HF.symm,aH⟩
 subst hNM;have hne:((N:Int) != (N:Int))=false:=by simp
 go_enter func100,ntmps100;go_wp2_with fail;go_loopw [5] (fun i wr=>∃k:Nat,k≤N∧i=.int .i64 k∧(∀(j:Nat),j<k→x[j]?=y[j]?)∧Bw w wr) (fun i _=>N-(intOf i).toNat)
 case atStart=>exact ⟨0,dO,rfl,fun j hj=>by omega,aH⟩
 case round=>
  obtain ⟨k,hk,rfl,hall,hb⟩:=hrel;have ed:=aa hall;have HB:=aa hb;clear hall hb;by_cases hlt:k<N
  case neg=>
   obtain rfl:k=N:=by omega
   have HF:=aa (show pj x y=true by
    unfold pj;rw[decide_eq_true_eq];apply List.ext_getElem?;intro j;by_cases hj:j<k
    ·exact ed j hj
    ·rw[List.getElem?_eq_none (by rw[HN.o];omega),List.getElem?_eq_none (by rw[HM.o];omega)])
   go_wp2_with fail;go_ret;exact ⟨aN HF.symm,HB⟩
  have fN:(k:Int)<(N:Int):=by omega
  obtain ⟨s,hs⟩:=fx (l:=x) (k:=k) (by rw[HN.o];omega);obtain ⟨t,ht⟩:=fx (l:=y) (k:=k) (by rw[HM.o];omega);obtain ⟨g,o,rfl,x1⟩:=HA.o k s hs;obtain ⟨g',o',rfl,y1⟩:=jl.o k t ht;have r1:=ae HB x1;have r2:=ae HB y1;have HS:=aa hs;have HT:=aa ht;clear hs ht x1 y1;by_cases hst:s=t
  ·subst hst
   have zL:=aa (show ∀(j:Nat),j<k+1→x[j]?=y[j]? from fun j hj=>by
    by_cases e:j=k
    ·rw[e,HS.o,HT.o]
    ·exact ed j (by omega))
   have WH:(s==s)=true:=(by simp);have afY:(s != s)=false:=by simp
   go_wp2_with fail;go_quiet (fail);go_wp2_with fail;go_roundw
   case rel=>exact ⟨k+1,by omega,by go_num,zL.o,az HB.o _⟩
   case measure=>simp[intOf];omega
  ·have HF:=aa (show pj x y=false by
    unfold pj;rw[decide_eq_false_iff_not];intro h;have:=HS.o;rw[h,HT.o] at this;injection this with this;exact hst this.symm)
   have WH:(s==t)=false:=by rw[beq_eq_false_iff_ne];exact hst
   have afY:(s != t)=true:=by rw[bne_iff_ne];exact hst
   clear hst;go_wp2_with fail;go_quiet (fail);go_wp2_with fail;go_ret;exact ⟨aN HF.symm,az HB _⟩
theorem Dx:(prog.info? 5).map (fun i=>(i.zero,i.size,i.bytes))=some (some (.int .u8 0),1,1):=by kernel_rfl
theorem Dy (w:World):Calls prog 105 #[] w fun e w'=>e=.returned (.string iT)∧Bw w w':=by
 obtain ⟨i0,hi,hz0,hz1,hz2⟩:=info_parts Dx;obtain ⟨w1,jJ,hown,hg⟩:=run_make_full (P:=prog) w w.heap.size 112 5 i0 (.int .u8 0) 1 underlying112 hi hz0 hz1 .i64 .i64 32 (by rw[hz2];omega) (by unfold maxLen;omega) aT;have e:(Value.int .u8 0).cells = #[Value.int .u8 0]:=rfl;rw[e,toList_madeCells_one,Nat.mul_one] at hown;have acU:(Instr.makeSlice 112 (.int .i64 32) (.int .i64 32)).run prog w=.ok (.slice (some ⟨w.heap.size,0,none⟩) 32 32) w1:=jJ;have HB:=aa (show Bw w w1 from aH.grown hg aT (fun k e=>by cases e));have htx:(convert 112 9 (.slice (some ⟨w.heap.size,0,none⟩) 32 32)).run prog w1=.ok (.string iT) w1:=by have h:=DU (P:=prog) (w:=w1) (B:=w.heap.size) (g:=w.heap.size) (cap:=32) (l:=List.replicate 32 0) underlying112 underlying5 underlying9 hown;exact h
 clear jJ hown hg hi hz0 hz1 hz2;go_enter func105,ntmps105;go_wp2_with fail;go_ret;exact ⟨rfl,HB⟩
theorem Bg (W:World) (B n:Nat) (v:Value) (l:List ByteArray) (x:ByteArray) (hown:W.ownsRow B 9 1 v n (bk kX l)) (hn:n≤100000000) (hB:B≤W.heap.size) :
 ∃g cap w2,(Builtin.append_ #[22,22] 22 #[v,.slice (some ⟨W.heap.size,0,none⟩) 1 1]).run prog (W.alloc (.cells #[.string x] 9))=.ok (.slice (some ⟨g,0,none⟩) (n+1) cap) w2∧ku W w2 B n 9 1 v (bk kX l) [.string x] g cap:=by
 obtain ⟨i0,iM,hz0,hz1,hz2⟩:=info_parts GS;exact eV 22 9 i0 _ 1 16 underlying22 iM hz0 hz1 hz2 rfl (by decide) (by decide) W B n v (bk kX l) [.string x] hown rfl (uy x) hn hB
theorem Tq {n:Int} (h:n<1∨5000<n):J2 n=(iU,1):=by unfold J2;rw[if_pos h]
theorem WI {n:Nat} (h1:1≤n) (h2:n≤5000):J2 n=(⟨List.replicate n iT,[],-1,[],false⟩,0):=by unfold J2;rw[if_neg (by omega)];rfl
theorem uW {W W':World} {row:Option Nat} (hg:W.grownBy W' row) {b:Nat} (j:Nat) (hlt:b<W.heap.size) (hne:some b≠row):W'.frozen? ⟨b,j,none⟩=W.frozen? ⟨b,j,none⟩:=by have hh:W'.heap[b]?=W.heap[b]?:=hg.block _ hlt hne;unfold World.frozen?;simp only;rw[hh]
def Ls (w:World) (N:Nat) (i:Value) (wr:World):Prop:=
 ∃(k:Nat) (p:Option Addr) (c:Nat),k≤N∧i=.int .i64 k∧eH wr (w.heap.size+1) (.slice p k c) (.slice none 0 0) (.int .i64 (-1)) (.slice none 0 0) (.bool false)∧eH wr w.heap.size (.slice none 0 0) (.slice none 0 0) (.int .i64 0) (.slice none 0 0) (.bool false)∧(∀b j,w.heap.size≤b→b≤w.heap.size+1→wr.frozen? ⟨b,j,none⟩=false)∧wr.ownsRow (w.heap.size+2) 9 1 (.slice p k c) k (bk kX (List.replicate k iT))∧Bw w wr
theorem Px (n:Int) (hn:aQ n) (w:World) (F:Nat→Prop) (hFF:∀q,w.heap.size≤q→F q):Calls prog 60 #[.int .i64 n] w (Aj F w (J2 n)):=by
 have xH:=aa hFF;clear hFF;obtain ⟨r,hr⟩:=aG (J2 n);have HR:=aa hr;rw[hr];clear hr;unfold aQ at hn;obtain ⟨W1,hW1⟩:=aG (w.alloc (.cells #[.slice none 0 0,.slice none 0 0,.int .i64 0,.slice none 0 0,.bool false] 26));have aY:=aa (show Bw w W1 by rw[← hW1];exact ar);have aU:=aa (show eH W1 w.heap.size (.slice none 0 0) (.slice none 0 0) (.int .i64 0) (.slice none 0 0) (.bool false) by rw[← hW1];exact eH.new w _ _ _ _ _ _);have JS:=aa (show W1.heap.size=w.heap.size+1 by rw[← hW1];simp);have sA:=aa (show ∀j,W1.frozen? ⟨w.heap.size,j,none⟩=false by rw[← hW1];intro j;simp);have ee:=aa hW1;clear hW1;by_cases kN:n<1∨5000<n
 case pos=>
  have HE:=aa (HR.symm.trans (Tq kN));have hc:n<1∨(¬n<1∧5000<n):=by omega
  clear kN;go_enter func60,ntmps60;go_upto_region 1 with fail;rw[ee.o];obtain ⟨x0,x1,x2,x3,x4⟩:=aU.o;have f0:=sA.o 0;have f1:=sA.o 1;have f2:=sA.o 2;have f3:=sA.o 3;have f4:=sA.o 4;rcases hc with c1|⟨c1,c2⟩
  ·have d0:decide (n<1)=true:=by simp;omega
   go_wp2_with fail;obtain ⟨q0,q1,q2,q3,q4⟩:=aU.set (vk':=.slice none 0 0) (vc':=.slice none 0 0) (vf':=.int .i64 0) (vp':=.slice none 0 0) (vd':=.bool false);refine au (v:=.tuple #[.agg #[.slice none 0 0,.slice none 0 0,.int .i64 0,.slice none 0 0,.bool false],.int .i64 1]) ⟨.slice none 0 0,.slice none 0 0,.slice none 0 0,by rw[HE.o];rfl,by rw[HE.o];exact ox _,dY aY aT⟩ ?_;simp[results,results60,go_sem,q0,q1,q2,q3,q4]
  ·have d0:decide (n<1)=false:=by simp;omega
   have d1:decide (5000<n)=true:=by simp;omega
   go_wp2_with fail;obtain ⟨q0,q1,q2,q3,q4⟩:=aU.set (vk':=.slice none 0 0) (vc':=.slice none 0 0) (vf':=.int .i64 0) (vp':=.slice none 0 0) (vd':=.bool false);refine au (v:=.tuple #[.agg #[.slice none 0 0,.slice none 0 0,.int .i64 0,.slice none 0 0,.bool false],.int .i64 1]) ⟨.slice none 0 0,.slice none 0 0,.slice none 0 0,by rw[HE.o];rfl,by rw[HE.o];exact ox _,dY aY aT⟩ ?_;simp[results,results60,go_sem,q0,q1,q2,q3,q4]
 case neg=>
  obtain ⟨N,rfl⟩:∃N:Nat,n=N:=⟨n.toNat,by omega⟩
  have HE:=aa (HR.symm.trans (WI (n:=N) (by omega) (by omega)));have c1:¬(N:Int)<1:=by omega
  have c2:¬(5000:Int)<(N:Int):=by omega
  have d0:decide ((N:Int)<1)=false:=by simp;omega
  have d1:decide ((5000:Int)<(N:Int))=false:=by simp;omega
  have XL:=aa (show N≤5000 by omega);clear kN;go_enter func60,ntmps60;go_upto_region 1 with fail;rw[ee.o];go_upto_region 4 with fail;obtain ⟨W2,hW2⟩:=aG (W1.alloc (.cells #[.slice none 0 0,.slice none 0 0,.int .i64 (-1),.slice none 0 0,.bool false] 26));have dV:=aa (show eH W2 (w.heap.size+1) (.slice none 0 0) (.slice none 0 0) (.int .i64 (-1)) (.slice none 0 0) (.bool false) by rw[← hW2,← JS.o];exact eH.new W1 _ _ _ _ _ _);have JA:Bw W1 W2:=by rw[← hW2];exact ar
  have xN:=aa (aU.below JA);have bS:=bh aY JA;have Fc:=aa (show ∀b j,w.heap.size≤b→b≤w.heap.size+1→W2.frozen? ⟨b,j,none⟩=false by
   intro b j g1 g2;rcases (show b=w.heap.size∨b=w.heap.size+1 by omega) with e|e
   ·rw[e];exact (JA.frozen (p:=⟨w.heap.size,j,none⟩) (by rw[JS.o];exact Nat.lt_succ_self _)).trans (sA j)
   ·rw[e,← hW2,← JS.o];simp)
  rw[hW2,JS.o];clear hW2 JA;go_wp2_with fail;go_loopw [5] (fun i wr=>Ls w N i wr) (fun i _=>N-(intOf i).toNat)
  case atStart=>exact ⟨0,none,0,dO,rfl,dV,xN,Fc,⟨by simp[bk],.inl ⟨rfl,rfl⟩⟩,bS⟩
  case round=>
   obtain ⟨k,p,c,hk,rfl,fI,hbz,rB,hrow,hb⟩:=hrel;have sB:=aa fI;have HBZ:=aa hbz;have JU:=aa rB;have bU:=aa hrow;have HB:=aa hb;have mN:=aa (show w.heap.size+1<wr.heap.size from World.block_lt_of_cell? _ ⟨w.heap.size+1,0,none⟩ fI.1);clear fI hbz rB hrow hb;by_cases hlt:k<N
   case neg=>
    obtain rfl:k=N:=by omega
    obtain ⟨x0,x1,x2,x3,x4⟩:=sB.o;obtain ⟨y0,y1,y2,y3,y4⟩:=HBZ.o;have f0:=JU.o w.heap.size 0 aT (Nat.le_succ _);have f1:=JU.o w.heap.size 1 aT (Nat.le_succ _);have f2:=JU.o w.heap.size 2 aT (Nat.le_succ _);have f3:=JU.o w.heap.size 3 aT (Nat.le_succ _);have f4:=JU.o w.heap.size 4 aT (Nat.le_succ _);go_wp2_with fail;obtain ⟨q0,q1,q2,q3,q4⟩:=HBZ.set (vk':=.slice p k c) (vc':=.slice none 0 0) (vf':=.int .i64 (-1)) (vp':=.slice none 0 0) (vd':=.bool false);refine au (v:=.tuple #[.agg #[.slice p k c,.slice none 0 0,.int .i64 (-1),.slice none 0 0,.bool false],.int .i64 0]) ⟨.slice p k c,.slice none 0 0,.slice none 0 0,by rw[HE.o];rfl,?_,dY HB aT⟩ ?_
    ·rw[HE.o]
     refine iH ⟨ou jd (by simp) bU (fun q hq=>⟨xH q (by have:=kZ bU hq;omega),by have:=kZ bU hq;omega⟩),lu _ _ _,iG _,⟨fun s hs=>?_,fun s h=>by simp at h,by show aQ (-1);unfold aQ;omega⟩⟩;rw[(List.mem_replicate.1 hs).2];show 32≤maxLen;unfold maxLen;omega
    ·simp[results,results60,go_sem,q0,q1,q2,q3,q4]
   case pos=>
   have fN:(k:Int)<(N:Int):=(by omega);have hkd:decide ((k:Int)<(N:Int))=true:=by simp;omega
   have hk5:k≤5000:=by have:=XL.o;omega
   obtain ⟨x0,x1,x2,x3,x4⟩:=sB.o;have hdr:Bw wr wr.drew:=aH.drew;go_upto_region 7 with fail;have adm:=ae hdr x0;have kJ:=aa (ae hdr x1);refine wp_region_held_drew (S:=fun w'=>w'.cell? ⟨w.heap.size+1,1,none⟩=some (.slice none 0 0)) (by kernel_rfl) kJ (fun hHeld=>?_);refine cB 0 19 (.pointer (some ⟨w.heap.size+1,0,none⟩)) rfl rfl hHeld ?_;simp only[aD];refine wpAnyH_ready (rs:=[1,2]) (by kernel_rfl) (by simp) ?_;refine AllReadyH.cons rfl (fun K hK=>?_) (AllReadyH.cons rfl (fun K hK=>?_) AllReadyH.nil)
   ·go_simp
    refine hK.out _ _ kJ.o (fun hHeld=>?_);clear hK K;refine kh 2 rfl (fun K hK=>?_);go_simp;refine (Dy wr.drew).mono ?_;rintro e w6 ⟨rfl,cV⟩;have dL:Bw wr w6:=ak hdr cV;obtain ⟨g,cp,w7,hrun,bY⟩:=Bg w6 (w.heap.size+2) k (.slice p k c) (List.replicate k iT) iT (aL bU.o dL) (by omega) (Nat.le_trans mN.o dL.size);have hx6:=ae dL x0;have BA:=ae ((Below.refl _ w6).alloc (Nat.le_refl w6.heap.size) (.cells #[.string iT] 9)) hx6;have Ff:=aa (ae dL x1);have gq:=aa (ae ((Below.refl _ w6).alloc (Nat.le_refl w6.heap.size) (.cells #[.string iT] 9)) Ff.o);have Cc:∀b,b≤w.heap.size+1→some b≠(Value.slice p k c).ownBlock:=fun b hb e=>by have:=kZ bU.o e.symm;omega
    have hl6:w.heap.size+1<w6.heap.size:=Nat.lt_of_lt_of_le mN.o dL.size;have lj:=aa ((sB.o.below dL).grown bY.grown (Cc _ aT));have Ew:=aa ((HBZ.o.below dL).grown bY.grown (Cc _ (Nat.le_succ _)));have Xz:=aa (fun b j (g1:w.heap.size≤b) (g2:b≤w.heap.size+1)=>show w7.frozen? ⟨b,j,none⟩=false from (uW bY.grown j (Nat.lt_of_le_of_lt g2 hl6) (Cc _ g2)).trans ((dL.frozen (p:=⟨b,j,none⟩) (show b<wr.heap.size from Nat.lt_of_le_of_lt g2 mN.o)).trans (JU.o b j g1 g2)));have fw:=aa (show Bw w w7 from (ak HB.o dL).grown bY.grown (ak HB.o dL).size (fun b hb=>by have:=kZ bU.o hb;omega));have Tk:w.heap.size+2≤g:=kZ bY.row rfl;have IX:=bY.row;have BF:=aa (show Ls w N (.int .i64 (k+1:Nat)) (w7.setCell ⟨w.heap.size+1,0,none⟩ (.slice (some ⟨g,0,none⟩) (k+1) cp)) from ⟨k+1,some ⟨g,0,none⟩,cp,by omega,rfl,lj.o.qw _,Ew.o.far (by omega) _,fun b j g1 g2=>by simpa using Xz.o b j g1 g2,by
     refine ownsRow_setCell_other ?_ (fun e=>by simp[Value.ownBlock] at e;omega) _;rw[List.replicate_succ',← fC];exact IX,fw.o.setCell (p:=⟨w.heap.size+1,0,none⟩) (Nat.le_succ _) _⟩)
    have sj:=aa lj.o.2.1;have CQ:=aa (lj.o.qw (.slice (some ⟨g,0,none⟩) (k+1) cp)).2.1;have dJ:=aa hrun;have hf7:=Xz.o (w.heap.size+1) 0 (Nat.le_succ _) aT;have hx7:=lj.o.1;clear hrun bY cV dL Cc IX Tk hl6;go_simp;refine hK.out _ _ Ff.o (fun hHeld=>?_);clear hK K;refine kh 3 rfl (fun K hK=>?_);go_simp;refine hK.out _ _ gq.o (fun hHeld=>?_);clear hK K;refine kh 4 rfl (fun K hK=>?_);refine bD rfl _ _ _ rfl rfl rfl dJ.o ?_;refine hK.out _ _ sj.o (fun hHeld=>?_);clear hK K;refine cB 5 24 (.pointer (some ⟨w.heap.size+1,0,none⟩)) rfl rfl hHeld ?_;simp only[Act.put,List.setIfInBounds_toArray];refine kh 6 rfl (fun K hK=>?_);go_simp;refine hK.out _ _ CQ.o (fun hHeld=>?_);clear hK K;clear hHeld;refine wpAnyH_done (by kernel_rfl) ?_ _;go_wp2_with fail;go_roundw
    case rel=>simpa using BF.o
    case measure=>simp[intOf];omega
   ·go_simp
    refine (Dy wr.drew).mono ?_;rintro e w6 ⟨rfl,cV⟩;have dL:Bw wr w6:=ak hdr cV;obtain ⟨g,cp,w7,hrun,bY⟩:=Bg w6 (w.heap.size+2) k (.slice p k c) (List.replicate k iT) iT (aL bU.o dL) (by omega) (Nat.le_trans mN.o dL.size);have hx6:=ae dL x0;have BA:=ae ((Below.refl _ w6).alloc (Nat.le_refl w6.heap.size) (.cells #[.string iT] 9)) hx6;have Ff:=aa (ae dL x1);have gq:=aa (ae ((Below.refl _ w6).alloc (Nat.le_refl w6.heap.size) (.cells #[.string iT] 9)) Ff.o);have Cc:∀b,b≤w.heap.size+1→some b≠(Value.slice p k c).ownBlock:=fun b hb e=>by have:=kZ bU.o e.symm;omega
    have hl6:w.heap.size+1<w6.heap.size:=Nat.lt_of_lt_of_le mN.o dL.size;have lj:=aa ((sB.o.below dL).grown bY.grown (Cc _ aT));have Ew:=aa ((HBZ.o.below dL).grown bY.grown (Cc _ (Nat.le_succ _)));have Xz:=aa (fun b j (g1:w.heap.size≤b) (g2:b≤w.heap.size+1)=>show w7.frozen? ⟨b,j,none⟩=false from (uW bY.grown j (Nat.lt_of_le_of_lt g2 hl6) (Cc _ g2)).trans ((dL.frozen (p:=⟨b,j,none⟩) (show b<wr.heap.size from Nat.lt_of_le_of_lt g2 mN.o)).trans (JU.o b j g1 g2)));have fw:=aa (show Bw w w7 from (ak HB.o dL).grown bY.grown (ak HB.o dL).size (fun b hb=>by have:=kZ bU.o hb;omega));have Tk:w.heap.size+2≤g:=kZ bY.row rfl;have IX:=bY.row;have BF:=aa (show Ls w N (.int .i64 (k+1:Nat)) (w7.setCell ⟨w.heap.size+1,0,none⟩ (.slice (some ⟨g,0,none⟩) (k+1) cp)) from ⟨k+1,some ⟨g,0,none⟩,cp,by omega,rfl,lj.o.qw _,Ew.o.far (by omega) _,fun b j g1 g2=>by simpa using Xz.o b j g1 g2,by
     refine ownsRow_setCell_other ?_ (fun e=>by simp[Value.ownBlock] at e;omega) _;rw[List.replicate_succ',← fC];exact IX,fw.o.setCell (p:=⟨w.heap.size+1,0,none⟩) (Nat.le_succ _) _⟩)
    have sj:=aa lj.o.2.1;have CQ:=aa (lj.o.qw (.slice (some ⟨g,0,none⟩) (k+1) cp)).2.1;have dJ:=aa hrun;have hf7:=Xz.o (w.heap.size+1) 0 (Nat.le_succ _) aT;have hx7:=lj.o.1;clear hrun bY cV dL Cc IX Tk hl6;go_simp;refine hK.out _ _ Ff.o (fun hHeld=>?_);clear hK K;refine wpAnyH_ready (rs:=[1,3]) (by kernel_rfl) (by simp) ?_;refine AllReadyH.cons rfl (fun K hK=>?_) (AllReadyH.cons rfl (fun K hK=>?_) AllReadyH.nil)
    ·go_simp
     refine hK.out _ _ Ff.o (fun hHeld=>?_);clear hK K;refine kh 3 rfl (fun K hK=>?_);go_simp;refine hK.out _ _ gq.o (fun hHeld=>?_);clear hK K;refine kh 4 rfl (fun K hK=>?_);refine bD rfl _ _ _ rfl rfl rfl dJ.o ?_;refine hK.out _ _ sj.o (fun hHeld=>?_);clear hK K;refine cB 5 24 (.pointer (some ⟨w.heap.size+1,0,none⟩)) rfl rfl hHeld ?_;simp only[Act.put,List.setIfInBounds_toArray];refine kh 6 rfl (fun K hK=>?_);go_simp;refine hK.out _ _ CQ.o (fun hHeld=>?_);clear hK K;clear hHeld;refine wpAnyH_done (by kernel_rfl) ?_ _;go_wp2_with fail;go_roundw
     case rel=>simpa using BF.o
     case measure=>simp[intOf];omega
    ·go_simp
     refine hK.out _ _ gq.o (fun hHeld=>?_);clear hK K;refine kh 1 rfl (fun K hK=>?_);go_simp;refine hK.out _ _ gq.o (fun hHeld=>?_);clear hK K;refine kh 4 rfl (fun K hK=>?_);refine bD rfl _ _ _ rfl rfl rfl dJ.o ?_;refine hK.out _ _ sj.o (fun hHeld=>?_);clear hK K;refine cB 5 24 (.pointer (some ⟨w.heap.size+1,0,none⟩)) rfl rfl hHeld ?_;simp only[Act.put,List.setIfInBounds_toArray];refine kh 6 rfl (fun K hK=>?_);go_simp;refine hK.out _ _ CQ.o (fun hHeld=>?_);clear hK K;clear hHeld;refine wpAnyH_done (by kernel_rfl) ?_ _;go_wp2_with fail;go_roundw
     case rel=>simpa using BF.o
     case measure=>simp[intOf];omega
def qZ (a b:aO):Bool:=decide (a.kept=b.kept∧a.cache=b.cache∧a.ah=b.ah∧a.dead=b.dead∧a.keep=b.keep)
theorem oD {a b:aO} (h:¬(a.kept=b.kept∧a.cache=b.cache∧a.ah=b.ah∧a.dead=b.dead∧a.keep=b.keep)):qZ a b=false:=by unfold qZ;rw[decide_eq_false_iff_not];exact h
theorem Dz {a b:aO}:qZ a b=true↔(a.kept=b.kept∧a.cache=b.cache∧a.ah=b.ah∧a.dead=b.dead∧a.keep=b.keep):=by unfold qZ;rw[decide_eq_true_eq]
theorem IZ {a b:aO}:qZ a b=true↔a=b:=by
 rw[Dz];constructor
 ·rintro ⟨h1,h2,h3,h4,h5⟩
  cases a;cases b;simp only at h1 h2 h3 h4 h5;subst h1;subst h2;subst h3;subst h4;subst h5;rfl
 ·rintro rfl;exact ⟨rfl,rfl,rfl,rfl,rfl⟩
def Two (W:World) (B:Nat) (v0 v1 v2 v3 v4 u0 u1 u2 u3 u4:Value):Prop:=eH W B v0 v1 v2 v3 v4∧eH W (B+1) u0 u1 u2 u3 u4
theorem Two.below {W W':World} {B:Nat} {v0 v1 v2 v3 v4 u0 u1 u2 u3 u4:Value} (h:Two W B v0 v1 v2 v3 v4 u0 u1 u2 u3 u4) (hb:Bw W W'):Two W' B v0 v1 v2 v3 v4 u0 u1 u2 u3 u4:=⟨h.1.below hb,h.2.below hb⟩
theorem Lt (d e:aO) (vk vc vp uk uc up:Value) (w:World) (h:bN w d vk vc vp) (h':bN w e uk uc up):Calls prog 46 #[ew d vk vc vp,ew e uk uc up] w fun z w'=>z=.returned (.bool (qZ d e))∧Bw w w':=by
 have Uv:=aa (fun W (hb:Bw w W)=>Lr d.kept e.kept vk uk W (h.kept.keep (af hb)) (h'.kept.keep (af hb)));have yO:=aa (fun W (hb:Bw w W)=>Pw d.keep e.keep vp up W (h.keep.keep (af hb)) (h'.keep.keep (af hb)));obtain ⟨bt,Ud⟩:∃b,lG d.kept e.kept=b:=⟨_,rfl⟩
 obtain ⟨bs,YC⟩:∃b,pj d.keep e.keep=b:=⟨_,rfl⟩
 rw[Ud] at Uv;rw[YC] at yO;unfold lG at Ud;unfold pj at YC;have HBT:=aa Ud;have yC:=aa YC;clear Ud YC;obtain ⟨r,hr⟩:=aG (qZ d e);have HR:=aa hr;rw[hr];obtain ⟨pk1,ck1,rfl,_,k1⟩:=h.kept.slice;obtain ⟨pc1,cc1,rfl,b1,b2⟩:=h.cache.slice;obtain ⟨pp1,cp1,rfl,_,_⟩:=h.keep.slice;obtain ⟨XB,XC,rfl,_,_⟩:=h'.kept.slice;obtain ⟨XD,XE,rfl,e1,e2⟩:=h'.cache.slice;obtain ⟨XF,Vz,rfl,_,_⟩:=h'.keep.slice;have sX:=aa h.cache.cells;have pB:=aa h'.cache.cells;obtain ⟨af7,Bh,Uy,af8,Pz⟩:=d;obtain ⟨af9,Bi,fu2,agb,de2⟩:=e;simp only at b1 e1 sX pB Uv yO HBT yC;unfold ew;simp only;clear h h' hr;obtain ⟨N1,hN1⟩:∃N,af7.length=N:=⟨_,rfl⟩
 obtain ⟨N2,hN2⟩:∃N,af9.length=N:=⟨_,rfl⟩
 obtain ⟨M1,hM1⟩:∃N,Bh.length=N:=⟨_,rfl⟩
 obtain ⟨M2,hM2⟩:∃N,Bi.length=N:=⟨_,rfl⟩
 obtain ⟨L1,hL1⟩:∃N,af8.length=N:=⟨_,rfl⟩
 obtain ⟨L2,hL2⟩:∃N,agb.length=N:=⟨_,rfl⟩
 rw[hN1,hN2] at Uv;rw[hL1,hL2] at yO;rw[hM1] at b1;rw[hM2] at e1;rw[hN1,hN2,hM1,hM2,hL1,hL2];have Jm:=aa hM1;have Cq:=aa hM2;have l1:=fG (n:=M1) b2;have l2:=fG (n:=M2) e2;clear hN1 hN2 hM1 hM2 hL1 hL2 b1 b2 e1 e2 k1;obtain ⟨W1,hW1⟩:=aG ((w.alloc (.cells #[.slice pk1 N1 ck1,.slice pc1 M1 cc1,.int .i64 Uy,.slice pp1 L1 cp1,.bool Pz] 26)).alloc (.cells #[.slice XB N2 XC,.slice XD M2 XE,.int .i64 fu2,.slice XF L2 Vz,.bool de2] 26));have aY:=aa (show Bw w W1 by rw[← hW1];exact (ar).alloc (by simp) _);have aU:=aa (show Two W1 w.heap.size (.slice pk1 N1 ck1) (.slice pc1 M1 cc1) (.int .i64 Uy) (.slice pp1 L1 cp1) (.bool Pz) (.slice XB N2 XC) (.slice XD M2 XE) (.int .i64 fu2) (.slice XF L2 Vz) (.bool de2) by
  rw[← hW1];refine ⟨(eH.new w _ _ _ _ _ _).below (ar),?_⟩;have:=eH.new (w.alloc (.cells #[.slice pk1 N1 ck1,.slice pc1 M1 cc1,.int .i64 Uy,.slice pp1 L1 cp1,.bool Pz] 26)) (.slice XB N2 XC) (.slice XD M2 XE) (.int .i64 fu2) (.slice XF L2 Vz) (.bool de2) 26;rw[show (w.alloc (.cells #[.slice pk1 N1 ck1,.slice pc1 M1 cc1,.int .i64 Uy,.slice pp1 L1 cp1,.bool Pz] 26)).heap.size=w.heap.size+1 by simp] at this;exact this)
 have ee:=aa hW1;clear hW1;go_enter func46,ntmps46;go_upto_region 1 with fail;rw[ee.o];obtain ⟨⟨x0,x1,x2,x3,x4⟩,y0,y1,y2,y3,y4⟩:=aU.o;cases bt with
 |false=>have HE:=aa (HR.symm.trans (oD (fun h=>by have:=HBT.o;rw[decide_eq_false_iff_not] at this;exact this h.1)));go_wp2_with (go_at_call 99;(refine (Uv.o _ aY.o).mono ?_);rintro e w5 ⟨rfl,aR⟩;have bp:=bh aY aR;have fK:=aa (aU.o.below aR);obtain ⟨⟨x0,x1,x2,x3,x4⟩,y0,y1,y2,y3,y4⟩:=fK.o;clear aR);go_ret;exact ⟨aN HE.symm,bp⟩
 |true=>
  by_cases hM:M1=M2
  case neg=>
   have hne:((M1:Int) != (M2:Int))=true:=by rw[bne_iff_ne];omega
   have HE:=aa (HR.symm.trans (oD (fun h=>by exact hM (by rw[← Jm.o,← Cq.o];exact congrArg _ h.2.1))));clear hM;go_wp2_with (go_at_call 99;(refine (Uv.o _ aY.o).mono ?_);rintro e w5 ⟨rfl,aR⟩;have bp:=bh aY aR;have fK:=aa (aU.o.below aR);obtain ⟨⟨x0,x1,x2,x3,x4⟩,y0,y1,y2,y3,y4⟩:=fK.o;clear aR);go_ret;exact ⟨aN HE.symm,bp⟩
  subst hM;have Cc:((M1:Int) != (M1:Int))=false:=by simp
  by_cases hF:Uy=fu2
  case neg=>
   have hne:(Uy != fu2)=true:=by rw[bne_iff_ne];exact hF
   have HE:=aa (HR.symm.trans (oD (fun h=>by exact hF h.2.2.1)));clear hF;go_wp2_with (go_at_call 99;(refine (Uv.o _ aY.o).mono ?_);rintro e w5 ⟨rfl,aR⟩;have bp:=bh aY aR;have fK:=aa (aU.o.below aR);obtain ⟨⟨x0,x1,x2,x3,x4⟩,y0,y1,y2,y3,y4⟩:=fK.o;clear aR);go_ret;exact ⟨aN HE.symm,bp⟩
  subst hF;have afY:(Uy != Uy)=false:=by simp
  by_cases hD:Pz=de2
  case neg=>
   have hne:(Pz != de2)=true:=by rw[bne_iff_ne];exact hD
   have WH:(Pz==de2)=false:=by rw[beq_eq_false_iff_ne];exact hD
   have HE:=aa (HR.symm.trans (oD (fun h=>by exact hD h.2.2.2.1)));clear hD;go_wp2_with (go_at_call 99;(refine (Uv.o _ aY.o).mono ?_);rintro e w5 ⟨rfl,aR⟩;have bp:=bh aY aR;have fK:=aa (aU.o.below aR);obtain ⟨⟨x0,x1,x2,x3,x4⟩,y0,y1,y2,y3,y4⟩:=fK.o;clear aR);go_ret;exact ⟨aN HE.symm,bp⟩
  subst hD;have Z2:(Pz != Pz)=false:=by simp
  have aoA:(Pz==Pz)=true:=by simp
  cases bs with
  |false=>have HE:=aa (HR.symm.trans (oD (fun h=>by have:=yC.o;rw[decide_eq_false_iff_not] at this;exact this h.2.2.2.2)));go_wp2_with (first|(go_at_call 99;(with_reducible refine (Uv.o _ aY.o).mono ?_);rintro e w5 ⟨rfl,aR⟩;have bp:=bh aY aR;have fK:=aa (aU.o.below aR);obtain ⟨⟨x0,x1,x2,x3,x4⟩,y0,y1,y2,y3,y4⟩:=fK.o;clear aR)|(go_at_call 100;(with_reducible refine (yO.o _ bp.o).mono ?_);rintro e w6 ⟨rfl,cV⟩;have cU:=bh bp cV;have kS:=aa (fK.o.below cV);obtain ⟨⟨x0,x1,x2,x3,x4⟩,y0,y1,y2,y3,y4⟩:=kS.o;clear cV));go_ret;exact ⟨aN HE.symm,cU⟩
  |true=>
   go_upto_region 3 with (first|(go_at_call 99;(with_reducible refine (Uv.o _ aY.o).mono ?_);rintro e w5 ⟨rfl,aR⟩;have bp:=bh aY aR;have fK:=aa (aU.o.below aR);obtain ⟨⟨x0,x1,x2,x3,x4⟩,y0,y1,y2,y3,y4⟩:=fK.o;clear aR)|(go_at_call 100;(with_reducible refine (yO.o _ bp.o).mono ?_);rintro e w6 ⟨rfl,cV⟩;have cU:=bh bp cV;have kS:=aa (fK.o.below cV);obtain ⟨⟨x0,x1,x2,x3,x4⟩,y0,y1,y2,y3,y4⟩:=kS.o;clear cV));go_wp2_with fail;go_loopw [5] (fun i wr=>∃k:Nat,k≤M1∧i=.int .i64 k∧(∀(j:Nat),j<k→Bh[j]?=Bi[j]?)∧Two wr w.heap.size (.slice pk1 N1 ck1) (.slice pc1 M1 cc1) (.int .i64 Uy) (.slice pp1 L1 cp1) (.bool Pz) (.slice XB N2 XC) (.slice XD M1 XE) (.int .i64 Uy) (.slice XF L2 Vz) (.bool Pz)∧Bw w wr) (fun i _=>M1-(intOf i).toNat)
   case atStart=>exact ⟨0,dO,rfl,fun j hj=>by omega,kS,cU⟩
   case round=>
    obtain ⟨k,hk,rfl,hall,hx,hb⟩:=hrel;have ed:=aa hall;have HB:=aa hb;have HX:=aa hx;clear hall hb hx x0 x1 x2 x3 x4 y0 y1 y2 y3 y4;obtain ⟨⟨x0,x1,x2,x3,x4⟩,y0,y1,y2,y3,y4⟩:=HX.o;by_cases hlt:k<M1
    case neg=>
     obtain rfl:k=M1:=by omega
     have HE:=aa (HR.symm.trans (Dz.2 ⟨by have:=HBT.o;rw[decide_eq_true_eq] at this;exact this,by
      apply List.ext_getElem?;intro j;by_cases hj:j<k
      ·exact ed j hj
      ·rw[List.getElem?_eq_none (by rw[Jm.o];omega),List.getElem?_eq_none (by rw[Cq.o];omega)],rfl,rfl,by have:=yC.o;rw[decide_eq_true_eq] at this;exact this⟩))
     go_wp2_with fail;go_ret;exact ⟨aN HE.symm,HB⟩
    have fN:(k:Int)<(M1:Int):=(by omega);obtain ⟨⟨s1,s2⟩,hs⟩:∃s,Bh[k]?=some s:=⟨_,List.getElem?_eq_getElem (by rw[Jm.o];omega)⟩
    obtain ⟨⟨t1,t2⟩,ht⟩:∃t,Bi[k]?=some t:=⟨_,List.getElem?_eq_getElem (by rw[Cq.o];omega)⟩
    obtain ⟨g,o,rfl,c1⟩:=sX.o k _ hs;obtain ⟨g',o',rfl,c2⟩:=pB.o k _ ht;have r1:=ae HB (c1 0 _ rfl);have r2:=ae HB (c1 1 _ rfl);have r3:=ae HB (c2 0 _ rfl);have r4:=ae HB (c2 1 _ rfl);replace r1:wr.cell? ⟨g,o+k*2,none⟩=some (.int .i64 s1):=r1;replace r2:wr.cell? ⟨g,o+k*2+1,none⟩=some (.string s2):=r2;replace r3:wr.cell? ⟨g',o'+k*2,none⟩=some (.int .i64 t1):=r3;replace r4:wr.cell? ⟨g',o'+k*2+1,none⟩=some (.string t2):=r4;have HS:=aa hs;have HT:=aa ht;clear hs ht c1 c2;by_cases hst:s1=t1∧s2=t2
    ·obtain ⟨rfl,rfl⟩:=hst
     have zL:=aa (show ∀(j:Nat),j<k+1→Bh[j]?=Bi[j]? from fun j hj=>by
      by_cases e:j=k
      ·rw[e,HS.o,HT.o]
      ·exact ed j (by omega))
     have b1:(s1==s1)=true:=(by simp);have b2:(s2.toList==s2.toList)=true:=by simp
     go_wp2_with fail;go_quiet (fail);go_wp2_with fail;go_roundw
     case rel=>exact ⟨k+1,by omega,by go_num,zL.o,HX.o.below (az aH _),az HB.o _⟩
     case measure=>simp[intOf];omega
    ·have HE:=aa (HR.symm.trans (oD (fun h=>by
      have h2:Bh=Bi:=h.2.1;have:=HS.o;rw[h2,HT.o] at this;injection this with this;injection this with this this2;exact hst ⟨this.symm,this2.symm⟩)))
     have hc:((s1==t1)=false)∨((s1==t1)=true∧(s2.toList==t2.toList)=false):=by
      by_cases e1:s1=t1
      ·refine .inr ⟨by simpa using e1,?_⟩
       rw[beq_eq_false_iff_ne];intro e;rw[ByteArray.toList_eq,ByteArray.toList_eq] at e;exact hst ⟨e1,Go.WideShapes.bytes_inj e⟩
      ·exact .inl (by simpa using e1)
     clear hst;rcases hc with b1|⟨b1,b2⟩
     ·go_wp2_with fail
      go_quiet (fail);go_wp2_with fail;go_ret;exact ⟨aN HE.o.symm,az HB.o _⟩
     ·go_wp2_with fail
      go_quiet (fail);go_wp2_with fail;go_ret;exact ⟨aN HE.o.symm,az HB.o _⟩
def tT (d:aO):Bool:=decide (d.kept.length≤200∧d.cache.length≤200∧d.keep.length≤400)
theorem I0 (d:aO) (vk vc vp:Value) (w:World) (h:bN w d vk vc vp):Calls prog 21 #[ew d vk vc vp] w fun z w'=>z=.returned (.bool (tT d))∧Bw w w':=by
 obtain ⟨r,hr⟩:=aG (tT d);have HR:=aa hr;rw[hr];obtain ⟨pk,ck,rfl,a1,a2⟩:=h.kept.slice;obtain ⟨pc,cc,rfl,b1,b2⟩:=h.cache.slice;obtain ⟨pp,cp,rfl,c1,c2⟩:=h.keep.slice;unfold tT at HR;clear h hr;obtain ⟨kept,cache,fu,keep,de⟩:=d;unfold ew;simp only at HR a1 b1 c1 ⊢;obtain ⟨N,hN⟩:=aG kept.length;obtain ⟨M,hM⟩:∃N,cache.length=N:=⟨_,rfl⟩
 obtain ⟨L,hL⟩:∃N,keep.length=N:=⟨_,rfl⟩
 rw[hN,hM,hL] at HR ⊢;rw[hN] at a1;rw[hM] at b1;rw[hL] at c1;have l1:=fG (n:=N) a2;have l2:=fG (n:=M) b2;have l3:=fG (n:=L) c2;clear hN hM hL a1 a2 b1 b2 c1 c2;obtain ⟨W1,hW1⟩:=aG (w.alloc (.cells #[.slice pk N ck,.slice pc M cc,.int .i64 fu,.slice pp L cp,.bool de] 26));have aY:=aa (show Bw w W1 by rw[← hW1];exact ar);have aU:=aa (show eH W1 w.heap.size (.slice pk N ck) (.slice pc M cc) (.int .i64 fu) (.slice pp L cp) (.bool de) by rw[← hW1];exact eH.new w _ _ _ _ _ _);have ee:=aa hW1;clear hW1;go_enter func21,ntmps21;go_upto_region 1 with fail;rw[ee.o];obtain ⟨x0,x1,x2,x3,x4⟩:=aU.o;have hc:(¬(N:Int)≤200∧r=false)∨((N:Int)≤200∧¬(M:Int)≤200∧r=false)∨((N:Int)≤200∧(M:Int)≤200∧r=decide ((L:Int)≤400)):=by
  have:=HR.o;by_cases h1:N≤200
  ·by_cases h2:M≤200
   ·exact .inr (.inr ⟨by omega,by omega,by rw[← this];simp[h1,h2];omega⟩)
   ·exact .inr (.inl ⟨by omega,by omega,by rw[← this];simp[h2]⟩)
  ·exact .inl ⟨by omega,by rw[← this];simp[h1]⟩
 rcases hc with ⟨g1,g4⟩|⟨g1,g2,g4⟩|⟨g1,g2,g4⟩
 ·have q1:decide ((N:Int)≤200)=false:=by simp;omega
  go_wp2_with fail;go_ret;exact ⟨rfl,aY⟩
 ·have q1:decide ((N:Int)≤200)=true:=by simp;omega
  have q2:decide ((M:Int)≤200)=false:=by simp;omega
  go_wp2_with fail;go_ret;exact ⟨rfl,aY⟩
 ·have q1:decide ((N:Int)≤200)=true:=by simp;omega
  have q2:decide ((M:Int)≤200)=true:=by simp;omega
  have HG:=aa g4;clear g4;go_wp2_with fail;go_ret;exact ⟨aN HG.symm,aY⟩
end Go.Proofs.YtbigkioechkngaaGreat
