/- The proof, part 15. -/
import Derived.Test.YtbigkioechkngaaGreatQ13
set_option maxRecDepth 100000
set_option maxHeartbeats 8000000
namespace Go.Proofs.YtbigkioechkngaaGreat
open Go.RowKit
abbrev wJ:=Option Addr×Nat×Nat
def ik (s:wJ):Value:=.slice s.1 s.2.1 s.2.2
def Ho (s:wJ):List Value:=[ik s]
theorem lJ (s:wJ):(Ho s).length=1:=rfl
theorem MN (s:wJ):∀u∈Ho s,u.oneCell'=true:=by intro u hu;unfold Ho at hu;simp only[List.mem_singleton] at hu;subst hu;rfl
theorem dB.sl {w:World} {v:Value} {l:List aj} (h:dB w v l):∃s:wJ,v=ik s:=by obtain ⟨p,c,h1,_⟩:=h;exact ⟨(p,l.length,c),h1⟩
theorem dI.rows {w:World} {v:Value} {c:List (List aj)} (h:dI w v c):∃(p:Option Addr) (cp:Nat) (rs:List wJ),v=.slice p c.length cp∧c.length≤cp∧cp≤maxLen∧rs.length=c.length∧∀i s,rs[i]?=some s→(∃g o,p=some ⟨g,o,none⟩∧w.cell? ⟨g,o+i,none⟩=some (ik s))∧∀t,c[i]?=some t→dB w (ik s) t:=by
 obtain ⟨p,cp,h1,h2,h3,h4⟩:=h;have h5:∀i:Fin c.length,∃s:wJ,(∃g o,p=some ⟨g,o,none⟩∧w.cell? ⟨g,o+i.1,none⟩=some (ik s))∧dB w (ik s) c[i.1]:=fun i=>by obtain ⟨g,o,u,e1,e2,e3⟩:=h4 i.1 _ (List.getElem?_eq_getElem i.2);obtain ⟨s,rfl⟩:=e3.sl;exact ⟨s,⟨g,o,e1,e2⟩,e3⟩
 refine ⟨p,cp,List.ofFn fun i=>(h5 i).choose,h1,h2,h3,List.length_ofFn,fun i s hs=>?_⟩;obtain ⟨hi,rfl⟩:=List.getElem?_eq_some_iff.1 hs;have hi':i<c.length:=by rw[List.length_ofFn] at hi;exact hi
 have h6:=(h5 ⟨i,hi'⟩).choose_spec;rw[List.getElem_ofFn];refine ⟨h6.1,fun t ht=>?_⟩;obtain ⟨_,rfl⟩:=List.getElem?_eq_some_iff.1 ht;exact h6.2
theorem uX {w:World} {p:Option Addr} {cp n:Nat} {rs:List wJ} {c:List (List aj)} (hn:c.length=n) (h1:n≤cp) (h2:cp≤maxLen) (hl:rs.length=n) (h:∀i s t,rs[i]?=some s→c[i]?=some t→(∃g o,p=some ⟨g,o,none⟩∧w.cell? ⟨g,o+i,none⟩=some (ik s))∧dB w (ik s) t):dI w (.slice p n cp) c:=by
 subst hn;refine ⟨p,cp,rfl,h1,h2,fun i t ht=>?_⟩;have hi:i<rs.length:=by rw[hl];exact (List.getElem?_eq_some_iff.1 ht).1
 obtain ⟨⟨g,o,e1,e2⟩,e3⟩:=h i _ t (List.getElem?_eq_getElem hi) ht;exact ⟨g,o,_,e1,e2,e3⟩
theorem jw {w:World} {v:Value} {c:List (List aj)} (h:dI w v c):∃p cp,v=.slice p c.length cp∧c.length≤cp∧cp≤maxLen:=by obtain ⟨p,cp,h1,h2,h3,_⟩:=h;exact ⟨p,cp,h1,h2,h3⟩
theorem Hp (w:World):dB w (.slice none 0 0) []:=⟨none,0,rfl,aT,by unfold maxLen;omega,fun i x hx=>by simp at hx⟩
theorem rY (w:World):dI w (.slice none 0 0) []:=⟨none,0,rfl,aT,by unfold maxLen;omega,fun i x hx=>by simp at hx⟩
theorem dh {F:Nat→Prop} {w:World}:dJ (mask F w) w:=fun _ _ hv=>(ar.1 hv).2
theorem Om {F:Nat→Prop} {w:World} {B:Nat} {v:Value} {l:List aj} (h:w.ownsRow B 52 4 v l.length (aI l)) (hF:∀q,B≤q→F q):dB (mask F w) v l:=by
 rcases aK h with ⟨hv,hn,_⟩|⟨g,cap,hv⟩
 ·have hl:l=[]:=List.eq_nil_of_length_eq_zero hn
  subst hl;rw[hv];exact Hp _
 ·have hg:=(h.lt g (by rw[hv];rfl)).1
  obtain ⟨p,c,e,h2,h3,h4⟩:=fw h;refine ⟨p,c,e,h2,h3,fun i x hx=>?_⟩;obtain ⟨g',o',e1,k0,k1,k2,k3⟩:=h4 i x hx;have:g'=g:=by rw[hv,e1] at e;injection e with e _ _;injection e with e;injection e with e;exact e.symm
  subst this;exact ⟨g',o',e1,ar.2 ⟨hF _ hg,k0⟩,ar.2 ⟨hF _ hg,k1⟩,ar.2 ⟨hF _ hg,k2⟩,ar.2 ⟨hF _ hg,k3⟩⟩
def V8 (F:Nat→Prop) (w:World) (c:List (List aj)) (e:Ending) (w':World):Prop:=∃v,e=.returned v∧dI (mask F w') v c∧Bw w w'
def Sp (F:Nat→Prop) (w:World) (c:List (List aj)) (more:List Value) (e:Ending) (w':World):Prop:=∃v,e=.returned (.tuple (v::more).toArray)∧dI (mask F w') v c∧Bw w w'
def iU (n no:Int):Nat→List (List aj)→Option (Nat×List aj×Int)
 |_,[]=>none
 |i,t::c=>if (gB t n).2.2=true∧¬(i:Int)=no then some (i,(gB t n).1,(gB t n).2.1) else iU n no (i+1) c
theorem AG {c:List (List aj)} {k:Nat} {t:List aj} {n no:Int} (h:c[k]?=some t):iU n no k (c.drop k)=if (gB t n).2.2=true∧¬(k:Int)=no then some (k,(gB t n).1,(gB t n).2.1) else iU n no (k+1) (c.drop (k+1)):=by rw[List.drop_eq_getElem_cons (List.getElem?_eq_some_iff.1 h).1,(List.getElem?_eq_some_iff.1 h).2];rfl
def bL (c:List (List aj)) (n no:Int):List (List aj)×Int×Int×Bool:=
 if cF c=true then (match iU n no 0 c with|some (i,t,a)=>(c.set i t,(i:Int),a,true)|none=>([],0,0,false)) else ([],0,0,false)
theorem Hq {n no:Int}:∀ {c:List (List aj)} {i j:Nat} {t:List aj} {a:Int},iU n no i c=some (j,t,a)→i≤j∧j<i+c.length∧¬(j:Int)=no∧∃u,c[j-i]?=some u∧(gB u n).2.2=true∧t=(gB u n).1∧a=(gB u n).2.1
 |[],_,_,_,_,h=>by cases h
 |u::c,i,j,t,a,h=>by
  unfold iU at h
  split at h
  ·rename_i hc
   injection h with h;injection h with h1 h2;injection h2 with h2 h3;subst h1;exact ⟨aT,by simp,hc.2,u,by simp,hc.1,h2.symm,h3.symm⟩
  ·obtain ⟨h1,h2,h3,u',h4,h5⟩:=Hq h
   refine ⟨by omega,by simp only[List.length_cons];omega,h3,u',?_,h5⟩;obtain ⟨k,hk⟩:∃k,j-i=k+1:=⟨j-i-1,by omega⟩
   rw[hk,List.getElem?_cons_succ];rw[show k=j-(i+1) by omega];exact h4
def Hr (c:List (List aj)) (x:aA):Bool:=cE x&&decide (x.chunk<c.length)&&((c[x.chunk.toNat]?).getD []).any (fun u=>decide (u.1=x.pos∧u.2.1=bQ x.size))
def fT (c:List (List aj)) (x:aA) (b:Int):List (List aj)×Bool:=
 if cF c=true∧Hr c x=true then (if (jI ((c[x.chunk.toNat]?).getD []) x.pos b).2=true then (c.set x.chunk.toNat (jI ((c[x.chunk.toNat]?).getD []) x.pos b).1,true) else ([],false)) else ([],false)
theorem KM {F:Nat→Prop} {W:World} {B g cap n:Nat} {rs:List wJ} {c:List (List aj)} (h:W.ownsRow B 45 1 (.slice (some ⟨g,0,none⟩) n cap) n (bn Ho rs)) (hF:∀q,B≤q→F q) (hl:rs.length=n) (hc:c.length=n) (hu:∀(i:Nat) (s:wJ) (t:List aj),rs[i]?=some s→c[i]?=some t→dB (mask F W) (ik s) t):dI (mask F W) (.slice (some ⟨g,0,none⟩) n cap) c:=by
 obtain ⟨_,_,_,h3,h4,_⟩:=bp h;refine uX hc h3 h4 hl fun i s t hs ht=>⟨⟨g,0,rfl,?_⟩,hu i s t hs ht⟩
 obtain ⟨h6,h7⟩:=List.getElem?_eq_some_iff.1 (eQ lJ rs i s 0 (ik s) hs rfl);have:=bJ h _ h6;rw[h7] at this;rw[Nat.zero_add];exact ar.2 ⟨hF _ (h.lt g rfl).1,by simpa using this⟩
theorem KO (c:List (List aj)) (pos:Nat) (l:List aj) (v1 v2:Value) (w:World) (F:Nat→Prop) (hF:∀q,w.heap.size≤q→F q) (h1:dI (mask F w) v1 c) (h2:dB (mask F w) v2 l) (hp:pos<c.length) (hlc:c.length≤1000000):Calls Tryz.prog 90 #[v1,.int .i64 pos,v2] w (V8 F w (c.set pos l)):=by
 obtain ⟨p,cp,rs,rfl,b1,b2,hl,hel⟩:=h1.rows;obtain ⟨s2,rfl⟩:=h2.sl;have XK:¬p=none:=fun e=>by obtain ⟨⟨g,o,e',_⟩,_⟩:=hel 0 _ (List.getElem?_eq_getElem (by omega));rw[e] at e';cases e'
 have hrow:dx w (.slice p c.length cp) 1 Ho rs:=⟨p,cp,by rw[hl],by rw[hl];exact b1,b2,fun e=>absurd e XK,fun i s hs=>by
  obtain ⟨⟨g,o,e1,e2⟩,_⟩:=hel i s hs;exact ⟨g,o,e1,fun j u hj=>by
   unfold Ho at hj;cases j with
   |zero=>simp only[List.getElem?_cons_zero,Option.some.injEq] at hj;subst hj;rw[Nat.mul_one,Nat.add_zero];exact dh _ _ e2
   |succ j=>simp at hj⟩⟩
 obtain ⟨p',c',e0,_,_,hc,jq⟩:=hrow.src lJ MN (by decide);injection e0 with e1 e2 e3;subst e1;subst e3;clear e2;rw[hl] at jq;obtain ⟨i0,iP,hz0,hz1,hz2⟩:=info_parts zl;obtain ⟨v',w1,r1,o1,g1⟩:=dP (P:=Tryz.prog) (w.alloc (.cells #[] 45)) w.heap.size 28 28 45 i0 (.slice none 0 0) 1 24 Tryz.underlying28 iP hz0 hz1 hz2 rfl (by decide) _ 0 [] (World.ownsRow_made w #[] 0 aT (by unfold maxLen;omega) rfl) p c.length cp _ (jq.stays (aq)) hc (by unfold maxLen;omega) (by omega) (by simp);rw[List.nil_append,Nat.zero_add] at o1;have hb1:Bw w w1:=fC (iA g1) aT (fun k hk=>by simp[Value.ownBlock] at hk;omega);rcases aK o1 with ⟨_,e,_⟩|⟨g,cap,rfl⟩
 ·omega
 have f0:=gC o1 pos;obtain ⟨x0,hx0⟩:∃x,rs[pos]?=some x:=⟨_,List.getElem?_eq_getElem (by omega)⟩
 have c0:w1.cell? ⟨g,pos,none⟩=some (ik x0):=by obtain ⟨h6,h7⟩:=List.getElem?_eq_some_iff.1 (eQ lJ rs pos x0 0 (ik x0) hx0 rfl);have:=bJ o1 _ h6;rw[h7] at this;simpa using this
 have hBS:=hb1.setCell (p:=⟨g,pos,none⟩) (o1.lt g rfl).1 (ik s2);have oD:=aa (KM (F:=F) (c:=c.set pos l) (zm lJ o1 (show pos<rs.length by omega) (x:=s2) (a:=ik s2) rfl) hF (by rw[List.length_set];exact hl) (by rw[List.length_set]) (fun i s t hs ht=>by
  have tF:dJ (mask F w) (mask F (w1.setCell ⟨g,pos,none⟩ (ik s2))):=aC hBS (fun q _ h=>h);by_cases hi:pos=i
  ·subst hi
   rw[List.getElem?_set_self (by omega)] at hs ht;cases hs;cases ht;exact h2.keep tF
  ·rw[List.getElem?_set_ne hi] at hs ht
   exact ((hel i s hs).2 t ht).keep tF))
 have dM:=aa r1;have ux:=aa hBS;have p0:(0:Int)≤(pos:Int):=by omega
 have p1:(pos:Int)<(c.length:Int):=by omega
 obtain ⟨n,hn⟩:=aG c.length;unfold ik at *;rw[hn] at dM oD p1 ⊢;clear r1 o1 g1 hb1 jq hp hl hn h1 h2 hel hx0 hrow hBS hc hlc b1 b2 XK;go_enter Tryz.func90,Tryz.ntmps90;go_wp2_with (at_builtin;refine Lib.wpList_append_run _ rfl _ _ _ _ rfl _ _ rfl rfl _ _ dM.o ?_);go_ret;exact ⟨_,rfl,oD,ux⟩
theorem KP (c:List (List aj)) (n no:Int) (hn:aP n) (v1:Value) (w:World) (F:Nat→Prop) (hF:∀q,w.heap.size≤q→F q) (h1:dI (mask F w) v1 c):Calls Tryz.prog 37 #[v1,.int .i64 n,.int .i64 no] w (Sp F w (bL c n no).1 [.int .i64 (bL c n no).2.1,.int .i64 (bL c n no).2.2.1,.bool (bL c n no).2.2.2]):=by
 have dS:=aa (Aa c v1 w (h1.keep dh));have HWT:=aa (fun (W:World) (hb:Bw w W) pos l v2=>KO c pos l v1 v2 W F (fun q hq=>hF q (Nat.le_trans hb.size hq)) (h1.keep (aC hb (fun _ _ h=>h))));obtain ⟨m,hm⟩:=aG (cF c);have HM:=aa hm;rw[hm] at dS;obtain ⟨r,hr⟩:=aG (bL c n no);have HR:=aa hr;rw[hr];unfold bL at HR;clear hr;have H1:=aa h1;obtain ⟨p,cp,rfl,a1,a2,ha⟩:=h1;have HA:=aa ha;obtain ⟨N,hN⟩:=aG c.length;rw[hN] at a1 dS HWT;rw[hN];have hlc:=fK (n:=N) a2;have HN:=aa hN;clear ha hN a1 a2 hm;have HI:=aa hn;have ya:=aa hF;clear hn hF;go_enter Tryz.func37,Tryz.ntmps37;cases m with
 |false=>have HE:=aa (show r=([],0,0,false) by rw[← HR.o,if_neg (by rw[HM.o];simp)]);go_wp2_with (go_at_call 50;(with_reducible refine dS.o.mono ?_);rintro e w5 ⟨rfl,aR⟩;have bA:=aa aR;clear aR);refine au (v:=.tuple #[.slice none 0 0,.int .i64 0,.int .i64 0,.bool false]) ⟨.slice none 0 0,by rw[HE.o],by rw[HE.o];exact rY _,bA⟩ ?_;simp[results,Tryz.results37,go_sem]
 |true=>
  have HE:=aa (show (match iU n no 0 c with|some (i,t,a)=>(c.set i t,(i:Int),a,true)|none=>([],0,0,false))=r by have h:=HR.o;rw[if_pos HM.o] at h;exact h);have yZ:=aa (show N≤1000 by
   have h:=HM.o;unfold cF at h;simp only[Bool.and_eq_true,decide_eq_true_eq] at h;rw[HN.o] at h;exact h.2.2)
  go_upto_region 3 with (go_at_call 50;(with_reducible refine dS.o.mono ?_);rintro e w5 ⟨rfl,aR⟩;have bA:=aa aR;clear aR);go_wp2_with fail;go_loopw [10,11,12,13] (fun i _ _ _ wr=>∃k:Nat,k≤N∧i=.int .i64 k∧iU n no 0 c=iU n no k (c.drop k)∧Bw w wr) (fun i _ _ _ _=>N-(intOf i).toNat)
  case atStart=>exact ⟨0,dQ,rfl,by rw[List.drop_zero],bA⟩
  case round=>
   obtain ⟨k,hk,rfl,heq,hb⟩:=hrel;have xT:=aa heq;have HB:=aa hb;clear heq hb;by_cases hlt:k<N
   case neg=>
    obtain rfl:k=N:=by omega
    have HG:=aa (show r=([],0,0,false) by rw[← HE.o,xT.o,List.drop_of_length_le (by rw[HN.o];exact aT)];rfl);go_wp2_with fail;refine au (v:=.tuple #[.slice none 0 0,.int .i64 0,.int .i64 0,.bool false]) ⟨.slice none 0 0,by rw[HG.o],by rw[HG.o];exact rY _,HB⟩ ?_;simp[results,Tryz.results37,go_sem]
   case pos=>
    have fO:(k:Int)<(N:Int):=(by omega);obtain ⟨t,ht⟩:=fy (l:=c) (k:=k) (by rw[HN.o];omega);obtain ⟨g,o,u1,rfl,x1,x2⟩:=HA.o k _ ht;obtain ⟨pu,cu,rfl,_⟩:=id x2;have r0:=ae HB (ar.1 x1).2;have sJ:=aa (Kz t n HI _ _ ((x2.keep dh).keep (af HB)));have fS:=aa (AG (n:=n) (no:=no) ht);clear ht x1 x2;obtain ⟨q,hq⟩:=aG (gB t n);obtain ⟨t2,a,b⟩:=q;rw[hq] at sJ fS;clear hq;simp only at sJ fS;go_upto_region 7 with (go_at_call 89;(with_reducible refine sJ.o.mono ?_);rintro e w6 ⟨v6,rfl,Yl,cW⟩;have FL:=aa Yl;have cQ:=aV HB cW;have mW:=aa (cW.size);clear cW Yl);by_cases ER:b=true∧¬(k:Int)=no
    case neg=>
     have MO:=aa (show iU n no 0 c=iU n no (k+1) (c.drop (k+1)) by rw[xT.o,fS.o,if_neg ER]);cases b with
     |false=>
      go_wp2_with fail;go_roundw
      case rel=>exact ⟨k+1,by omega,by go_num,MO.o,cQ.o⟩
      case measure=>simp[intOf];omega
     |true=>
      have Hs:((k:Int) != no)=false:=by simp only[bne_eq_false_iff_eq];exact Classical.byContradiction fun h=>ER ⟨rfl,h⟩
      clear ER;go_wp2_with fail;go_roundw
      case rel=>exact ⟨k+1,by omega,by go_num,MO.o,cQ.o⟩
      case measure=>simp[intOf];omega
    case pos=>
     obtain ⟨rfl,hno⟩:=ER;have Hs:((k:Int) != no)=true:=by simp only[bne_iff_ne,ne_eq];exact hno
     have HG:=aa (show r=(c.set k t2,(k:Int),a,true) by rw[← HE.o,xT.o,fS.o,if_pos ⟨rfl,hno⟩]);clear hno;have HWX:=aa (HWT.o _ cQ k t2 v6 (Om FL (fun q hq=>ya q (Nat.le_trans HB.size hq))) (by omega) (by have:=yZ.o;omega));obtain ⟨sv,hsv⟩:=(fw FL).sl;unfold ik at hsv;subst hsv;go_wp2_with (go_at_call 90;(with_reducible refine HWX.o.mono ?_);rintro e w7 ⟨v7,rfl,MP,dO⟩;obtain ⟨p7,c7,rfl,_,_⟩:=jw MP;have ES:=aa MP;have fg:=aV cQ dO;clear dO MP);refine au (v:=.tuple #[.slice p7 (c.set k t2).length c7,.int .i64 k,.int .i64 a,.bool true]) ⟨_,by rw[HG.o],by rw[HG.o];exact ES,fg⟩ ?_;simp[results,Tryz.results37,go_sem]
structure bX where
 disk:aL
 met:Int
 gen:Int
 aD:Int
 av:List dy
 tabs:List (List aj)
structure PV where
 k:Value
 c:Value
 p:Value
 v:Value
 t:Value
def dZ (p:bX) (v:PV):Value:=.agg #[v.k,v.c,.int .i64 p.disk.ah,v.p,.bool p.disk.dead,.int .i64 p.met,.int .i64 p.gen,.int .i64 p.aD,v.v,v.t]
structure bh (w:World) (p:bX) (v:PV):Prop where
 disk:bP w p.disk v.k v.c v.p
 av:eU w v.v p.av
 tabs:dI w v.t p.tabs
 bm:aP p.met
 bg:aP p.gen
 ba:aP p.aD
theorem bh.keep {w w':World} {p:bX} {v:PV} (h:bh w p v) (hk:dJ w w'):bh w' p v:=⟨h.disk.keeps hk,h.av.keep hk,h.tabs.keep hk,h.bm,h.bg,h.ba⟩
def wN (W:World) (b:Nat) (p:bX) (v:PV):Prop:=W.cell? ⟨b,0,none⟩=some v.k∧W.cell? ⟨b,1,none⟩=some v.c∧W.cell? ⟨b,2,none⟩=some (.int .i64 p.disk.ah)∧W.cell? ⟨b,3,none⟩=some v.p∧W.cell? ⟨b,4,none⟩=some (.bool p.disk.dead)∧W.cell? ⟨b,5,none⟩=some (.int .i64 p.met)∧W.cell? ⟨b,6,none⟩=some (.int .i64 p.gen)∧W.cell? ⟨b,7,none⟩=some (.int .i64 p.aD)∧W.cell? ⟨b,8,none⟩=some v.v∧W.cell? ⟨b,9,none⟩=some v.t
theorem wN.below {W W':World} {b:Nat} {p:bX} {v:PV} (h:wN W b p v) (hb:Bw W W'):wN W' b p v:=by obtain ⟨h0,h1,h2,h3,h4,h5,h6,h7,h8,h9⟩:=h;exact ⟨ae hb h0,ae hb h1,ae hb h2,ae hb h3,ae hb h4,ae hb h5,ae hb h6,ae hb h7,ae hb h8,ae hb h9⟩
theorem wN.new (W:World) (p:bX) (v:PV) (T:TypeId):wN (W.alloc (.cells #[v.k,v.c,.int .i64 p.disk.ah,v.p,.bool p.disk.dead,.int .i64 p.met,.int .i64 p.gen,.int .i64 p.aD,v.v,v.t] T)) W.heap.size p v:=⟨by simp,by simp,by simp,by simp,by simp,by simp,by simp,by simp,by simp,by simp⟩
def ET:bX:=⟨iZ,0,0,0,[],[]⟩
noncomputable def cA (p:bX):Bool:=(gu p.disk&&cF p.tabs)&&decide ((1≤p.met∧p.met≤1000)∧(1≤p.gen∧p.gen<1099511627776)∧(p.aD=0∨p.aD=1))&&decide ((p.disk.kept.length:Int)=2+2*p.met+16*p.tabs.length)&&(match cg p.av p.tabs.length with|none=>false|some T=>decide (p.tabs.map aQ=T))
theorem bF {p:bX}:cA p=true↔gu p.disk=true∧cF p.tabs=true∧(1≤p.met∧p.met≤1000)∧(1≤p.gen∧p.gen<1099511627776)∧(p.aD=0∨p.aD=1)∧(p.disk.kept.length:Int)=2+2*p.met+16*p.tabs.length∧cg p.av p.tabs.length=some (p.tabs.map aQ):=by
 unfold cA;simp only[Bool.and_eq_true,decide_eq_true_eq];constructor
 ·rintro ⟨⟨⟨⟨h1,h2⟩,h3,h4,h5⟩,h6⟩,h7⟩
  refine ⟨h1,h2,h3,h4,h5,h6,?_⟩;cases hq:cg p.av p.tabs.length with
  |none=>rw[hq] at h7;cases h7
  |some T=>rw[hq] at h7;simp only[decide_eq_true_eq] at h7;rw[h7]
 ·rintro ⟨h1,h2,h3,h4,h5,h6,h7⟩
  refine ⟨⟨⟨⟨h1,h2⟩,h3,h4,h5⟩,h6⟩,?_⟩;rw[h7];simp
def aee (w:World) (l:List aj) (N:Nat) (v i:Value) (wr:World):Prop:=∃(k m g c:Nat),k≤N∧i=.int .i64 k∧v=.slice (some ⟨g,0,none⟩) m c∧(aQ (l.take k)).length=m∧wr.ownsRow w.heap.size 52 4 (.slice (some ⟨g,0,none⟩) m c) m (aI (aQ (l.take k)))∧Bw w wr
theorem Sx (l:List aj) (hl:l.length≤1000) (v1:Value) (w:World) (h1:dB w v1 l):Calls Tryz.prog 53 #[v1] w fun e w'=>∃v,e=.returned v∧w'.ownsRow w.heap.size 52 4 v (aQ l).length (aI (aQ l))∧Bw w w':=by
 obtain ⟨p,cp,rfl,a1,a2,ha⟩:=h1;have HA:=aa ha;obtain ⟨N,hN⟩:=aG l.length;rw[hN] at a1 hl;rw[hN];have hlc:=fK (n:=N) a2;have HN:=aa hN;have KH:=aa hl;clear ha hN a1 a2 hl;have HOW:=aa (World.ownsRow_made (e:=52) (size:=4) w #[] 0 aT (by unfold maxLen;omega) rfl);have gQ:=aa (show Bw w (w.alloc (.cells #[] 52)) from aq);go_enter Tryz.func53,Tryz.ntmps53;go_wp2_with fail;go_loopw [3,4] (fun v i wr=>aee w l N v i wr) (fun _ i _=>N-(intOf i).toNat)
 case atStart=>exact ⟨0,0,w.heap.size,0,dQ,rfl,rfl,rfl,HOW,gQ⟩
 case round=>
  obtain ⟨k,n,g,c,hk,rfl,rfl,Uy,hrow,hb⟩:=hrel;have bY:=aa hrow;have HB:=aa hb;have qA:=aa Uy;clear hrow hb Uy;by_cases hlt:k<N
  case neg=>
   obtain rfl:k=N:=by omega
   have kQ:=aa (show aQ l=aQ (l.take k) by
    rw[List.take_of_length_le (l:=l) (by rw[HN.o];exact aT)])
   go_wp2_with fail;go_ret;refine ⟨_,rfl,?_,HB⟩;rw[kQ.o,qA.o];exact bY.o
  case pos=>
  have fO:(k:Int)<(N:Int):=by omega
  obtain ⟨⟨x,y,z,d⟩,hs⟩:∃s,l[k]?=some s:=⟨_,List.getElem?_eq_getElem (by rw[HN.o];omega)⟩
  obtain ⟨gg,o,rfl,x1⟩:=HA.o k _ hs;simp only at x1;have aU:=aa x1;have fS:=aa (EL hs);have akE:n≤1000:=by have h3:=G6 (l.take k);have h4:(l.take k).length≤k:=List.length_take_le ..;have h5:=qA.o;have h6:=KH.o;omega
  clear hs x1;obtain ⟨r0,r1,r2,r3⟩:=aU.keep (af HB);by_cases hz:0<z
  ·have hd:decide (0<z)=true:=by simpa using hz
   have EC:=aa (show aQ (l.take (k+1))=aQ (l.take k)++[(x,y,z,true)] by rw[fS.o,if_pos hz];rfl);obtain ⟨W1,hW1⟩:=aG (wr.alloc (.cells #[.int .i64 x,.int .i64 y,.int .i64 z,.bool d] 52));have h4:U4 wr.heap.size 0 x y z d W1:=by rw[← hW1];exact ⟨by simp,by simp,by simp,by simp⟩
   have qi:W1.frozen? ⟨wr.heap.size,3,none⟩=false:=by rw[← hW1];simp
   have aZ:=aa (show Bw wr W1 by rw[← hW1];exact aq);have ed:=aa hW1;clear hW1;go_upto_region 7 with fail;rw[ed.o];obtain ⟨s0,s1,s2,s3⟩:=h4;rw[Nat.zero_add] at s1 s2 s3;obtain ⟨W2,hW2⟩:=aG (W1.setCell ⟨wr.heap.size,3,none⟩ (.bool true));have jQ:=aa (show U4 wr.heap.size 0 x y z true W2 by
    rw[← hW2];exact ⟨(World.cell?_setCell_other _ _ _ _ (fun e=>by injection e with e1 e2;omega)).trans s0,(World.cell?_setCell_other _ _ _ _ (fun e=>by injection e with e1 e2;omega)).trans s1,(World.cell?_setCell_other _ _ _ _ (fun e=>by injection e with e1 e2;omega)).trans s2,World.cell?_setCell_same _ _ _ s3⟩)
   have mX:=aa (show Bw wr W2 by rw[← hW2];exact aZ.setCell (p:=⟨wr.heap.size,3,none⟩) aT _);go_upto_region 8 with fail;clear hW2 s0 s1 s2 s3 qi r0 r1 r2 r3;obtain ⟨r0,r1,r2,r3⟩:=jQ.o;rw[Nat.zero_add] at r1 r2 r3;obtain ⟨g2,c2,w9,hrun,hrow2,kp,_⟩:=ju W2 w.heap.size n _ (aQ (l.take k)) (x,y,z,true) (aM bY mX) (by omega) (ak HB mX).size;simp only at hrun;have dM:=aa hrun;have nB:=aa hrow2;have km:=aa ((ak HB mX).trans kp);have CO:=aa (show (aQ (l.take (k+1))).length=n+1 by rw[EC.o,List.length_append,qA.o];rfl);clear hrun hrow2 kp;go_wp2_with (at_builtin;refine Lib.wpList_append_run _ rfl _ _ _ _ rfl _ _ rfl rfl _ _ dM.o ?_);go_roundw
   case rel=>exact ⟨k+1,n+1,g2,c2,by omega,by go_num,rfl,CO.o,by rw[EC.o];exact nB.o,km.o⟩
   case measure=>simp[intOf];omega
  ·have hd:decide (0<z)=false:=by simpa using hz
   have EC:=aa (show aQ (l.take (k+1))=aQ (l.take k) by rw[fS.o,if_neg hz,List.append_nil]);go_wp2_with fail;go_roundw
   case rel=>exact ⟨k+1,n,g,c,by omega,by go_num,rfl,by rw[EC.o];exact qA.o,by rw[EC.o];exact bY.o,HB.o⟩
   case measure=>simp[intOf];omega
theorem AO {p:bX} (h:¬(gu p.disk=true∧cF p.tabs=true∧(1≤p.met∧p.met≤1000)∧(1≤p.gen∧p.gen<1099511627776)∧(p.aD=0∨p.aD=1)∧(p.disk.kept.length:Int)=2+2*p.met+16*p.tabs.length∧cg p.av p.tabs.length=some (p.tabs.map aQ))):cA p=false:=by rw[← Bool.not_eq_true,bF];exact h
theorem yh {l:List dy} {n:Nat} {T:List (List aj)} (h:cg l n=some T):T.length=n:=by
 have go:∀(l:List az) (A:List (List aj)),gA n A l=some T→T.length=A.length:=by
  intro l
  induction l with
  |nil=>intro A h;simp only[gA,Option.some.injEq] at h;rw[h]
  |cons p l ih=>
   intro A h;unfold gA at h
   split at h
   ·rw[ih _ h,C6]
   ·cases h
 unfold cg at h
 split at h
 ·rename_i h0
  cases hq:gA (n:Int).toNat (List.replicate (n:Int).toNat []) (aY l) with
  |none=>rw[hq] at h;cases h
  |some U=>
   rw[hq] at h;simp only at h
   split at h
   ·injection h with h;subst h
    rw[Int.toNat_natCast] at hq;rw[go _ _ hq,List.length_replicate]
   ·cases h
 ·cases h
theorem mI {w:World} {p:Option Addr} {n c:Nat} {l:List (List aj)} (h:dI w (.slice p n c) l):∀(i:Nat) x,l[i]?=some x→∃g o u,p=some ⟨g,o,none⟩∧w.cell? ⟨g,o+i,none⟩=some u∧dB w u x:=by obtain ⟨p',c',h1,_,_,h4⟩:=h;injection h1 with e _ _;subst e;exact h4
theorem kC (p:bX) (v:PV) (w:World) (h:bh w p v) (ls:bO p.av):Calls Tryz.prog 15 #[dZ p v] w fun e w'=>e=.returned (.bool (cA p))∧Bw w w':=by
 obtain ⟨W,hW⟩:=aG (w.alloc (.cells #[v.k,v.c,.int .i64 p.disk.ah,v.p,.bool p.disk.dead,.int .i64 p.met,.int .i64 p.gen,.int .i64 p.aD,v.v,v.t] 30));have HX:=aa (show wN W w.heap.size p v by rw[← hW];exact wN.new w p v _);have HB:=aa (show Bw w W by rw[← hW];exact aq);have HK:=aa (fun (V:World) (hb:Bw w V)=>wD p.disk v.k v.c v.p V (h.disk.below hb));have HT:=aa (fun (V:World) (hb:Bw w V)=>Aa p.tabs v.t V (h.tabs.keep (af hb)));have HQ:=aa (fun (V:World) (hb:Bw w V)=>Hw p.av p.tabs.length v.v V (h.av.keep (af hb)) ls);have HP:=aa h;obtain ⟨pk,ck,ek,_,_⟩:=h.disk.kept.slice;obtain ⟨pc,cc,ec,_,_⟩:=h.disk.cache.slice;obtain ⟨pp,cp,ep,_,_⟩:=h.disk.keep.slice;obtain ⟨pt,ct,et,b1,b2⟩:=jw h.tabs;obtain ⟨pv,cv,ev,_⟩:=h.av;have oP:=aa (@AO p);have EW:=aa (@bF p);clear h ls;obtain ⟨⟨kept,cache,ah,keep,dead⟩,met,gen,aD,av,tabs⟩:=p;obtain ⟨vk,vc,vp,vv,vt⟩:=v;simp only at ek ec ep et ev HX HK HT HQ HP oP EW hW b1;subst ek;subst ec;subst ep;subst et;subst ev;unfold dZ at *;unfold wN at HX;unfold eE at HK;simp only at HX HK oP EW hW ⊢;obtain ⟨mk,jP⟩:∃m,gu ⟨kept,cache,ah,keep,dead⟩=m:=⟨_,rfl⟩
 rw[jP] at HK oP EW;obtain ⟨mt,wL⟩:∃m,cF tabs=m:=⟨_,rfl⟩
 rw[wL] at HT oP EW;have JU:=aa jP;have yg:=aa wL;obtain ⟨KN,UG⟩:∃n,kept.length=n:=⟨_,rfl⟩
 obtain ⟨TN,Wj⟩:∃n,tabs.length=n:=⟨_,rfl⟩
 have HKN:=aa UG;have Sy:=aa Wj;have KR:=aa (show (tabs.length:Int)≤9223372036854775807 by unfold maxLen at b2;omega);have HKB:=aa (JU.o);rw[UG] at HX oP EW hW HK;rw[Wj] at HX oP EW hW HQ HT KR;obtain ⟨r,hr⟩:=aG (cA ⟨⟨kept,cache,ah,keep,dead⟩,met,gen,aD,av,tabs⟩);rw[hr] at oP EW;rw[hr,UG,Wj];clear jP wL UG Wj hr b1 b2;go_enter Tryz.func15,Tryz.ntmps15;go_upto_region 1 with fail
 try rw[hW]
 clear hW;obtain ⟨c0,c1,c2,c3,c4,c5,c6,c7,c8,c9⟩:=HX.o;cases mk with
 |false=>have HF:=aa (show r=false from oP (fun h=>by have:=h.1;cases this));go_wp2_with (go_at_call 49;(with_reducible refine (HK.o _ HB.o).mono ?_);rintro e w5 ⟨rfl,aR⟩;have bA:=aV HB aR;clear aR);go_ret;exact ⟨aO HF.symm,bA⟩
 |true=>
 cases mt with
 |false=>have HF:=aa (show r=false from oP (fun h=>by have:=h.2.1;cases this));go_wp2_with (first|(go_at_call 49;(with_reducible refine (HK.o _ HB.o).mono ?_);rintro e w5 ⟨rfl,aR⟩;have bA:=aV HB aR;have fQ:=aa (ae aR c9);clear aR;have k9:=fQ.o)|(go_at_call 50;(with_reducible refine (HT.o _ bA.o).mono ?_);rintro e w6 ⟨rfl,cW⟩;have cQ:=aV bA cW;clear cW));go_ret;exact ⟨aO HF.symm,cQ⟩
 |true=>
 have HPX:=aa (show wN W w.heap.size ⟨⟨kept,cache,ah,keep,dead⟩,met,gen,aD,av,tabs⟩ ⟨.slice pk KN ck,.slice pc cache.length cc,.slice pp keep.length cp,.slice pv av.length cv,.slice pt TN ct⟩ from ⟨c0,c1,c2,c3,c4,c5,c6,c7,c8,c9⟩);by_cases hok:(1≤met∧met≤1000)∧(1≤gen∧gen<1099511627776)∧(aD=0∨aD=1)
 case neg=>
  have HF:=aa (show r=false from oP (fun h=>hok ⟨h.2.2.1,h.2.2.2.1,h.2.2.2.2.1⟩));have kV:met<1∨(¬met<1∧1000<met)∨(¬met<1∧¬1000<met∧gen<1)∨(¬met<1∧¬1000<met∧¬gen<1∧1099511627776≤gen)∨(¬met<1∧¬1000<met∧¬gen<1∧¬1099511627776≤gen∧¬aD=0∧¬aD=1):=by omega
  clear hok;rcases kV with h1|⟨h1,h2⟩|⟨h1,h2,h3⟩|⟨h1,h2,h3,h4⟩|⟨h1,h2,h3,h4,h5,h6⟩
  all_goals
   first|(have d1:decide (met<1)=true:=decide_eq_true h1)|(have d1:decide (met<1)=false:=decide_eq_false h1)
   try first|(have d2:decide (1000<met)=true:=decide_eq_true h2)|(have d2:decide (1000<met)=false:=decide_eq_false h2)
   try first|(have d3:decide (gen<1)=true:=decide_eq_true h3)|(have d3:decide (gen<1)=false:=decide_eq_false h3)
   try first|(have d4:decide (1099511627776≤gen)=true:=decide_eq_true h4)|(have d4:decide (1099511627776≤gen)=false:=decide_eq_false h4)
   try have d5:(aD != 0)=true:=by simpa using h5
   try have d6:(aD != 1)=true:=by simpa using h6
   try clear h1
   try clear h2
   try clear h3
   try clear h4
   try clear h5
   try clear h6
   go_wp2_with (first|(go_at_call 49;(with_reducible refine (HK.o _ HB.o).mono ?_);rintro e w5 ⟨rfl,aR⟩;have bA:=aV HB aR;have fQ:=aa (HPX.o.below aR);clear aR;have k9:=fQ.o.2.2.2.2.2.2.2.2.2;simp only at k9)|(go_at_call 50;(with_reducible refine (HT.o _ bA.o).mono ?_);rintro e w6 ⟨rfl,cW⟩;have cQ:=aV bA cW;have kB:=aa (fQ.o.below cW);clear cW;obtain ⟨j0,j1,j2,j3,j4,j5,j6,j7,j8,j9⟩:=kB.o;simp only at j5 j6 j7));go_ret;exact ⟨aO HF.symm,cQ⟩
 case pos=>
 have Ca:=aa hok;have d1:decide (met<1)=false:=decide_eq_false (by omega);have d2:decide (1000<met)=false:=decide_eq_false (by omega);have d3:decide (gen<1)=false:=decide_eq_false (by omega);have d4:decide (1099511627776≤gen)=false:=decide_eq_false (by omega);have Vb:1≤met:=hok.1.1;have zi:met≤1000:=hok.1.2;have MS:1≤TN∧TN≤1000:=by have h:=yg.o;unfold cF at h;simp only[Bool.and_eq_true,decide_eq_true_eq] at h;rw[Sy.o] at h;exact h.2
 have Es:KN≤5000:=by have h:=((fW _).1 JU).1.2.1;simp only at h;rw[HKN.o] at h;exact h
 have ha:((aD != 0)=false)∨((aD != 0)=true∧(aD != 1)=false):=by
  rcases hok.2.2 with h|h
  ·left;simpa using h
  ·right;subst h;exact ⟨rfl,rfl⟩
 clear hok;obtain ⟨MS,Sz⟩:=MS;have e1:wrap64 (2*met)=2*met:=dK (by omega) (by omega);have e2:wrap64 (2+2*met)=2+2*met:=dK (by omega) (by omega);have e3:wrap64 (16*(TN:Int))=16*(TN:Int):=dK (by omega) (by omega);have e4:wrap64 (2+2*met+16*(TN:Int))=2+2*met+16*(TN:Int):=dK (by omega) (by omega);have HE:=aa (And.intro e1 (And.intro e2 (And.intro e3 e4)));clear e1 e2 e3 e4;have hkb:(KN:Int)≤9223372036854775807:=by omega
 have Ou:(TN:Int)≤9223372036854775807:=by omega
 have HT1:=aa MS;have HT2:=aa Sz;have sG:=aa (And.intro Vb zi);clear Es MS Sz Vb zi;rcases ha with ha|⟨ha,ha'⟩
 all_goals
  go_upto_region 3 with (first|(go_at_call 49;(with_reducible refine (HK.o _ HB.o).mono ?_);rintro e w5 ⟨rfl,aR⟩;have bA:=aV HB aR;have fQ:=aa (HPX.o.below aR);clear aR;have k9:=fQ.o.2.2.2.2.2.2.2.2.2;simp only at k9)|(go_at_call 50;(with_reducible refine (HT.o _ bA.o).mono ?_);rintro e w6 ⟨rfl,cW⟩;have cQ:=aV bA cW;have kB:=aa (fQ.o.below cW);clear cW;obtain ⟨j0,j1,j2,j3,j4,j5,j6,j7,j8,j9⟩:=kB.o;simp only at j0 j5 j6 j7 j8 j9));clear d1 d2 d3 d4 ha
  try clear ha'
  obtain ⟨e1,e2,e3,e4⟩:=HE.o;by_cases hlen:(KN:Int)=2+2*met+16*TN
  case neg=>
   have HF:=aa (show r=false from oP (fun h=>hlen (by have:=h.2.2.2.2.2.1;exact this)));have dl:((KN:Int) != 2+2*met+16*(TN:Int))=true:=by simpa using hlen
   clear hlen;go_wp2_with fail;go_ret;exact ⟨aO HF.symm,cQ⟩
  case pos=>
  have rP:=aa hlen;have dl:((KN:Int) != 2+2*met+16*(TN:Int))=false:=by simpa using hlen
  clear hlen;go_upto_region 5 with fail;clear dl e1 e2 e3 e4;have SA:=aa (HQ.o _ cQ);obtain ⟨q,hq⟩:=aG (cg av TN);have EX:=aa hq;clear hq;cases q with
  |none=>have HF:=aa (show r=false from oP (fun h=>by have:=h.2.2.2.2.2.2;rw[EX.o] at this;cases this));go_wp2_with (go_at_call 51;(with_reducible refine SA.o.mono ?_);rintro e w7 KS;unfold di at KS;rw[EX.o] at KS;obtain ⟨rfl,dO⟩:=KS;have fg:=aV cQ dO;clear dO);go_ret;exact ⟨aO HF.symm,fg⟩
  |some T=>
   have uy:=aa (yh EX);have HYX:=aa (show r=true↔tabs.map aQ=T from ⟨fun h=>by
    have:=(EW.1 h).2.2.2.2.2.2;rw[EX.o] at this;injection this with this;exact this.symm,fun h=>EW.2 ⟨trivial,trivial,Ca.1,Ca.2.1,Ca.2.2,rP,by rw[EX.o,h]⟩⟩)
   go_upto_region 8 with (go_at_call 51;(with_reducible refine SA.o.mono ?_);rintro e w7 KS;unfold di at KS;rw[EX.o] at KS;obtain ⟨v7,rfl,MP,dO⟩:=KS;obtain ⟨p7,c7,rfl,ha1,ha2⟩:=jw MP;rw[uy.o];have ES:=aa MP;have fg:=aV cQ dO;have ly:=aa (kB.o.below dO);clear dO MP ha1 ha2);clear j0 j5 j6 j7 j8 j9;go_wp2_with fail;go_loopw [5] (fun i wr=>∃k:Nat,k≤TN∧i=.int .i64 k∧(∀(j:Nat) t u,j<k→tabs[j]?=some t→T[j]?=some u→aQ t=u)∧Bw w wr∧Bw w7 wr) (fun i _=>TN-(intOf i).toNat)
   case atStart=>exact ⟨0,dQ,rfl,fun j _ _ hj=>by omega,fg,aH⟩
   case round=>
    obtain ⟨k,hk,rfl,hall,hb,hb'⟩:=hrel;have ez:=aa hall;have gQ:=aa hb;have km:=aa hb';have k9:=(ly.below hb').2.2.2.2.2.2.2.2.2;simp only at k9;clear hall hb hb';by_cases hlt:k<TN
    case neg=>
     obtain rfl:k=TN:=by omega
     have HF:=aa (show r=true from HYX.2 (by
      apply List.ext_getElem (by rw[List.length_map,Sy.o,uy.o]);intro j h1 h2;rw[List.getElem_map];rw[List.length_map,Sy.o] at h1;exact ez j _ _ h1 (List.getElem?_eq_getElem (by rw[Sy.o];exact h1)) (List.getElem?_eq_getElem h2)))
     go_wp2_with fail;go_ret;exact ⟨aO HF.symm,gQ⟩
    case pos=>
     have fO:(k:Int)<(TN:Int):=(by omega);obtain ⟨t,ht⟩:=fy (l:=tabs) (k:=k) (by rw[Sy.o];exact hlt);obtain ⟨u,hu⟩:=fy (l:=T) (k:=k) (by rw[uy.o];exact hlt);obtain ⟨g,o,u1,e1,y1,y2⟩:=(mI HP.tabs) k _ ht;obtain ⟨g',o',u2,e2,z1,z2⟩:=(mI ES) k _ hu;subst e1;subst e2;obtain ⟨s1,rfl⟩:=y2.sl;obtain ⟨s2,rfl⟩:=z2.sl;unfold ik at *;have fL:=aa gQ.drew;have HST:=aa (show wr.drew.cell? ⟨w.heap.size,9,none⟩=_∧wr.drew.cell? ⟨g,o+k,none⟩=_∧wr.drew.cell? ⟨g',o'+k,none⟩=_ from ⟨ae aH.drew k9,ae fL y1,ae km.drew z1⟩);obtain ⟨q0,q1,q2⟩:=HST.o;have ZE:=aa (y2.keep (af fL));have Dl:=aa (z2.keep (af km.drew));have JV:=aa (And.intro ht hu);have SB:=aa (show t.length≤1000 by
      have h:=yg.o;unfold cF at h;simp only[Bool.and_eq_true,List.all_eq_true] at h;have:=fY (h.1 t (List.mem_of_getElem? ht));omega)
     clear y1 y2 z1 z2 ht hu k9;obtain ⟨bq,yV⟩:∃b,oy (aQ t) u=b:=⟨_,rfl⟩
     have vY:=aa yV;clear yV;go_upto_region 11 with fail;go_region_held3 (fun w'=>w'.cell? ⟨w.heap.size,9,none⟩=some (.slice (some ⟨g,o,none⟩) TN ct)∧w'.cell? ⟨g,o+k,none⟩=some (.slice s1.1 s1.2.1 s1.2.2)∧w'.cell? ⟨g',o'+k,none⟩=some (.slice s2.1 s2.2.1 s2.2.2))
      (first|exact ⟨q0,q1,q2⟩|exact ⟨gG.o.1,gG.o.2.1,gG.o.2.2⟩|exact ⟨mA.o.1,mA.o.2.1,mA.o.2.2⟩)
      (first|((with_reducible refine (Sx t SB.o _ _ ZE.o).mono ?_);rintro e w8 ⟨v8,rfl,ho,hb⟩;have HU8:=aa (fw ho);have ZF:=aa (Dl.o.keep (af hb));have yP:=aV fL hb;have ZG:=aa (ak km.o.drew hb);have gG:=aa (show _∧_∧_ from ⟨ae hb q0,ae hb q1,ae hb q2⟩);clear hb ho)|((with_reducible refine (xQ (aQ t) u _ _ _ HU8.o ZF.o).mono ?_);rintro e wa ⟨rfl,hb⟩;rw[vY.o];have jr:=aV yP hb;have ZH:=aV ZG hb;have mA:=aa (show _∧_∧_ from ⟨ae hb gG.o.1,ae hb gG.o.2.1,ae hb gG.o.2.2⟩);clear hb))
     cases bq with
     |true=>
      have rR:=aa (show aQ t=u by have:=vY.o;unfold oy at this;exact of_decide_eq_true this);go_wp2_with fail;go_roundw
      case rel=>
       refine ⟨k+1,by omega,by go_num,fun j t' u' hj ht hu=>?_,jr.o,ZH.o⟩;by_cases e:j=k
       ·subst e;rw[JV.o.1] at ht;rw[JV.o.2] at hu;cases ht;cases hu;exact rR.o
       ·exact ez j t' u' (by omega) ht hu
      case measure=>simp[intOf];omega
     |false=>
      have hsm:¬aQ t=u:=by have:=vY.o;unfold oy at this;exact of_decide_eq_false this
      have HF:=aa (show r=false by
       rw[← Bool.not_eq_true,HYX.o];intro h;have h1:=congrArg (·[k]?) h;simp only[List.getElem?_map] at h1;rw[JV.o.1,JV.o.2] at h1;simp only[Option.map_some,Option.some.injEq] at h1;exact hsm h1)
      clear hsm;go_wp2_with fail;go_ret;exact ⟨aO HF.symm,jr⟩
def fx:List aj→Int
 |[]=>0
 |u::l=>(if u.2.2.1=0 then 0 else u.2.1)+fx l
theorem Ea:∀(l m:List aj),fx (l++m)=fx l+fx m
 |[],m=>by rw[List.nil_append,fx,Int.zero_add]
 |u::l,m=>by rw[List.cons_append,fx,fx,Ea l m,Int.add_assoc]
theorem L6 {l:List aj} {k:Nat} {u:aj} (h:l[k]?=some u):fx (l.take (k+1))=fx (l.take k)+(if u.2.2.1=0 then 0 else u.2.1):=by rw[List.take_add_one,h,Option.toList_some,Ea,fx,fx,Int.add_zero]
theorem Eb:∀ {l:List aj},(∀u∈l,fG u=true)→0≤fx l∧fx l≤8*l.length
 |[],_=>by simp[fx]
 |u::l,h=>by
  have h1:=Eb (l:=l) (fun v hv=>h v (List.mem_cons_of_mem _ hv));have h2:=bW.1 (h u List.mem_cons_self);rw[fx,List.length_cons]
  split <;> omega
theorem P3 {t:List aj} (h:dD t=true) (k:Nat):0≤fx (t.take k)∧fx (t.take k)≤128:=by
 have h1:=Eb (l:=t.take k) (fun u hu=>gV h (List.mem_of_mem_take hu));have h2:=fY h;have h3:(t.take k).length≤t.length:=by rw[List.length_take];omega
 omega
def ke:Nat→List (List aj)→Int→Int→Int
 |_,[],b,_=>b
 |i,t::l,b,f=>if 0<fx t∧(b<0∨fx t<f) then ke (i+1) l i (fx t) else ke (i+1) l b f
theorem Jq {l:List (List aj)} {k:Nat} {t:List aj} (b f:Int) (h:l[k]?=some t):ke k (l.drop k) b f=if 0<fx t∧(b<0∨fx t<f) then ke (k+1) (l.drop (k+1)) k (fx t) else ke (k+1) (l.drop (k+1)) b f:=by rw[List.drop_eq_getElem_cons (List.getElem?_eq_some_iff.1 h).1,(List.getElem?_eq_some_iff.1 h).2];rfl
noncomputable def mR (p:bX):Int:=if cA p=true then ke 0 p.tabs (-1) 0 else -1
def jn (l:List aj):List aj:=l.filter (fun u=>decide (¬u.2.2.1=0))
theorem L9 {l:List aj} {k:Nat} {u:aj} (h:l[k]?=some u):jn (l.take (k+1))=jn (l.take k)++(if ¬u.2.2.1=0 then [u] else []):=by unfold jn;rw[List.take_add_one,h,Option.toList_some,List.filter_append];congr 1;by_cases h0:u.2.2.1=0 <;> simp[h0]
theorem P7 (l:List aj):(jn l).length≤l.length:=List.length_filter_le ..
def agY (w:World) (l:List aj) (N:Nat) (v i:Value) (wr:World):Prop:=∃(k m:Nat),k≤N∧i=.int .i64 k∧(jn (l.take k)).length=m∧wr.ownsRow w.heap.size 52 4 v m (aI (jn (l.take k)))∧Bw w wr
theorem Fy (l:List aj) (hl:l.length≤1000) (v1:Value) (w:World) (h1:dB w v1 l):Calls Tryz.prog 66 #[v1] w fun e w'=>∃v,e=.returned v∧w'.ownsRow w.heap.size 52 4 v (jn l).length (aI (jn l))∧Bw w w':=by
 obtain ⟨p,cp,rfl,a1,a2,ha⟩:=h1;have HA:=aa ha;obtain ⟨N,hN⟩:=aG l.length;rw[hN] at a1 hl;rw[hN];have hlc:=fK (n:=N) a2;have HN:=aa hN;have KH:=aa hl;clear ha hN a1 a2 hl;go_enter Tryz.func66,Tryz.ntmps66;go_wp2_with fail;go_loopw [3,8] (fun v i wr=>agY w l N v i wr) (fun _ i _=>N-(intOf i).toNat)
 case atStart=>exact ⟨0,0,dQ,rfl,rfl,World.ownsRow_nil _ _ _ _,aH⟩
 case round=>
  obtain ⟨k,n,hk,rfl,Uy,hrow,hb⟩:=hrel;obtain ⟨q,qm,qc,rfl⟩:=jF hrow;have bY:=aa hrow;have HB:=aa hb;have qA:=aa Uy;clear hrow hb Uy;by_cases hlt:k<N
  case neg=>
   obtain rfl:k=N:=by omega
   have kQ:=aa (show jn l=jn (l.take k) by
    rw[List.take_of_length_le (l:=l) (by rw[HN.o];exact aT)])
   go_wp2_with fail;go_ret;refine ⟨_,rfl,?_,HB⟩;rw[kQ.o,qA.o];exact bY.o
  case pos=>
  have fO:(k:Int)<(N:Int):=by omega
  obtain ⟨⟨x,y,z,d⟩,hs⟩:∃s,l[k]?=some s:=⟨_,List.getElem?_eq_getElem (by rw[HN.o];omega)⟩
  obtain ⟨gg,o,rfl,x1⟩:=HA.o k _ hs;simp only at x1;have aU:=aa x1;have fS:=aa (L9 hs);have akE:n≤1000:=by have h3:=P7 (l.take k);have h4:(l.take k).length≤k:=List.length_take_le ..;have h5:=qA.o;have h6:=KH.o;omega
  clear hs x1;obtain ⟨r0,r1,r2,r3⟩:=aU.keep (af HB);by_cases hz:z=0
  ·subst hz
   have EC:=aa (show jn (l.take (k+1))=jn (l.take k) by rw[fS.o,if_neg (fun h=>h rfl),List.append_nil]);have km:=aa (HB.alloc (HB.size) (.cells #[.int .i64 x,.int .i64 y,.int .i64 0,.bool d] 52));have agZ:=aa (aM bY (show Bw wr (wr.alloc (.cells #[.int .i64 x,.int .i64 y,.int .i64 0,.bool d] 52)) from aq));go_wp2_with fail;go_roundw
   case rel=>exact ⟨k+1,n,by omega,by go_num,by rw[EC.o];exact qA.o,by rw[EC.o];exact agZ.o,km.o⟩
   case measure=>simp[intOf];omega
  ·have hd:decide (z=0)=false:=by simpa using hz
   have EC:=aa (show jn (l.take (k+1))=jn (l.take k)++[(x,y,z,d)] by rw[fS.o,if_pos hz]);obtain ⟨W1,hW1⟩:=aG (wr.alloc (.cells #[.int .i64 x,.int .i64 y,.int .i64 z,.bool d] 52));have h4:U4 wr.heap.size 0 x y z d W1:=by rw[← hW1];exact ⟨by simp,by simp,by simp,by simp⟩
   have aZ:=aa (show Bw wr W1 by rw[← hW1];exact aq);have ed:=aa hW1;clear hW1;go_upto_region 5 with fail
   try rw[ed.o]
   clear r0 r1 r2 r3;obtain ⟨s0,s1,s2,s3⟩:=h4;rw[Nat.zero_add] at s1 s2 s3;obtain ⟨g2,c2,w9,hrun,hrow2,kp,_⟩:=ju W1 w.heap.size n _ (jn (l.take k)) (x,y,z,d) (aM bY aZ) (by omega) (ak HB aZ).size;simp only at hrun;have dM:=aa hrun;have nB:=aa hrow2;have km:=aa ((ak HB aZ).trans kp);have CO:=aa (show (jn (l.take (k+1))).length=n+1 by rw[EC.o,List.length_append,qA.o];rfl);clear hrun hrow2 kp;go_wp2_with (at_builtin;refine Lib.wpList_append_run _ rfl _ _ _ _ rfl _ _ rfl rfl _ _ dM.o ?_);go_roundw
   case rel=>exact ⟨k+1,n+1,by omega,by go_num,CO.o,by rw[EC.o];exact nB.o,km.o⟩
   case measure=>simp[intOf];omega
def ui (u v:aj):Bool:=u.1==v.1&&(u.2.1==v.2.1&&u.2.2.1==v.2.2.1)
theorem Ma (u v:aj) (w:World):Calls Tryz.prog 67 #[.agg #[.int .i64 u.1,.int .i64 u.2.1,.int .i64 u.2.2.1,.bool u.2.2.2],.agg #[.int .i64 v.1,.int .i64 v.2.1,.int .i64 v.2.2.1,.bool v.2.2.2]] w fun e w'=>e=.returned (.bool (ui u v))∧Bw w w':=by
 obtain ⟨a,b,c,d⟩:=u;obtain ⟨x,y,z,q⟩:=v;simp only;obtain ⟨r,hr⟩:=aG (ui (a,b,c,d) (x,y,z,q));rw[hr];have HR:=aa hr;clear hr;obtain ⟨W1,hW1⟩:=aG (w.alloc (.cells #[.int .i64 a,.int .i64 b,.int .i64 c,.bool d] 52));obtain ⟨W2,hW2⟩:=aG (W1.alloc (.cells #[.int .i64 x,.int .i64 y,.int .i64 z,.bool q] 52));have hb1:Bw w W1:=by rw[← hW1];exact aq
 have hb2:Bw W1 W2:=by rw[← hW2];exact aq
 have ZE:=aa (show aJ W1 w.heap.size [.int .i64 a,.int .i64 b,.int .i64 c,.bool d] by rw[← hW1];exact aJ.new w _ _);have Dl:=aa (show aJ W2 W1.heap.size [.int .i64 x,.int .i64 y,.int .i64 z,.bool q] by rw[← hW2];exact aJ.new W1 _ _);have Xs:=aa (ZE.below hb2);have jr:=aa (ak hb1 hb2);clear hb1 hb2;go_enter Tryz.func67,Tryz.ntmps67;go_upto_region 1 with fail
 try rw[hW1]
 try rw[hW2]
 clear hW1 hW2;have q0:=Xs.cell (j:=0) rfl;have q1:=Xs.cell (j:=1) rfl;have q2:=Xs.cell (j:=2) rfl;have s0:=Dl.cell (j:=0) rfl;have s1:=Dl.cell (j:=1) rfl;have s2:=Dl.cell (j:=2) rfl;cases h1:(a==x) <;> cases h2:(b==y) <;> cases h3:(c==z)
 all_goals (go_wp2_with fail;go_ret;exact ⟨by rw[← HR.o];unfold ui;simp only[h1,h2,h3];rfl,jr.o⟩)
def sM:List aj→List aj→Bool
 |[],[]=>true
 |u::l,v::m=>ui u v&&sM l m
 |_,_=>false
theorem Jr:∀ {l m:List aj},¬l.length=m.length→sM l m=false
 |[],[],h=>(h rfl).elim
 |[],_::_,_=>rfl
 |_::_,[],_=>rfl
 |u::l,v::m,h=>by unfold sM;rw[Jr (l:=l) (m:=m) (fun e=>h (by rw[List.length_cons,List.length_cons,e])),Bool.and_false]
theorem P8 {l m:List aj} {k:Nat} {u v:aj} (h:l[k]?=some u) (h2:m[k]?=some v):sM (l.drop k) (m.drop k)=(ui u v&&sM (l.drop (k+1)) (m.drop (k+1))):=by rw[List.drop_eq_getElem_cons (List.getElem?_eq_some_iff.1 h).1,(List.getElem?_eq_some_iff.1 h).2,List.drop_eq_getElem_cons (List.getElem?_eq_some_iff.1 h2).1,(List.getElem?_eq_some_iff.1 h2).2];rfl
theorem Mb (l m:List aj) (v1 v2:Value) (w:World) (h1:dB w v1 l) (h2:dB w v2 m):Calls Tryz.prog 65 #[v1,v2,.func (.func 67) #[] #[]] w fun e w'=>e=.returned (.bool (sM l m))∧Bw w w':=by
 obtain ⟨p,cp,rfl,a1,a2,ha⟩:=h1;obtain ⟨p2,V7,rfl,b1,b2,hb⟩:=h2;have HA:=aa ha;have FT:=aa hb;obtain ⟨N,hN⟩:=aG l.length;obtain ⟨M,hM⟩:=aG m.length;rw[hN] at a1;rw[hM] at b1;rw[hN,hM];have hlc:=fK (n:=N) a2;have Y8:=fK (n:=M) b2;have HN:=aa hN;have HM:=aa hM;obtain ⟨r,hr⟩:=aG (sM l m);rw[hr];have HR:=aa hr;by_cases hnm:N=M
 case neg=>
  have HF:=aa (show r=false by rw[← hr];exact Jr (by rw[hN,hM];exact hnm));have hne:decide ((N:Int)=(M:Int))=false:=by simp;omega
  clear ha hb hN hM hr;go_enter Tryz.func65,Tryz.ntmps65;go_wp2_with fail;go_ret;exact ⟨by rw[HF.o];rfl,aH⟩
 case pos=>
 subst hnm;clear ha hb hN hM hr;go_enter Tryz.func65,Tryz.ntmps65;go_wp2_with fail;go_loopw [17,7] (fun i _ wr=>∃k:Nat,k≤N∧i=.int .i64 k∧sM (l.drop k) (m.drop k)=r∧Bw w wr) (fun i _ _=>N-(intOf i).toNat)
 case atStart=>exact ⟨0,dQ,rfl,by rw[List.drop_zero,List.drop_zero];exact HR,aH⟩
 case round=>
  obtain ⟨k,hk,rfl,hall,hb⟩:=hrel;have ez:=aa hall;have HB:=aa hb;clear hall hb;by_cases hlt:k<N
  case neg=>
   obtain rfl:k=N:=by omega
   have HF:=aa (show r=true by rw[← ez.o,List.drop_of_length_le (by rw[HN.o];exact aT),List.drop_of_length_le (by rw[HM.o];exact aT)];rfl);go_wp2_with fail;go_ret;exact ⟨by rw[HF.o];rfl,HB⟩
  case pos=>
   have fO:(k:Int)<(N:Int):=(by omega);obtain ⟨⟨a,b,c,d⟩,hs⟩:∃s,l[k]?=some s:=⟨_,List.getElem?_eq_getElem (by rw[HN.o];omega)⟩
   obtain ⟨⟨a',b',c',d'⟩,hs2⟩:∃s,m[k]?=some s:=⟨_,List.getElem?_eq_getElem (by rw[HM.o];omega)⟩
   obtain ⟨g,o,rfl,x1⟩:=HA.o k _ hs;obtain ⟨g2,o2,rfl,x2⟩:=FT.o k _ hs2;have dY:=aa x2;obtain ⟨r0,r1,r2,r3⟩:=x1.keep (af HB);simp only at r0 r1 r2 r3;have fS:=aa (P8 hs hs2);clear hs x1 hs2 x2;obtain ⟨bq,yV⟩:∃q,ui (a,b,c,d) (a',b',c',d')=q:=⟨_,rfl⟩
   have vY:=aa yV;clear yV;have sN:=aa (Ma (a,b,c,d) (a',b',c',d'));obtain ⟨W1,hW1⟩:=aG (wr.alloc (.cells #[.int .i64 a,.int .i64 b,.int .i64 c,.bool d] 52));obtain ⟨W2,hW2⟩:=aG (W1.alloc (.cells #[.int .i64 a',.int .i64 b',.int .i64 c',.bool d'] 52));have hb1:Bw wr W1:=by rw[← hW1];exact aq
   have hb2:Bw W1 W2:=by rw[← hW2];exact aq
   have ZE:=aa (show aJ W1 wr.heap.size [.int .i64 a,.int .i64 b,.int .i64 c,.bool d] by rw[← hW1];exact aJ.new wr _ _);have Dl:=aa (show aJ W2 W1.heap.size [.int .i64 a',.int .i64 b',.int .i64 c',.bool d'] by rw[← hW2];exact aJ.new W1 _ _);have Xs:=aa (ZE.below hb2);have aZ:=aV HB hb1;have bU:=aV aZ hb2;have ed:=aa hW1;have XZ:=aa hW2;clear hb1 hb2 hW1 hW2;go_upto_region 6 with fail;rw[ed.o];clear r0 r1 r2 r3;obtain ⟨r0,r1,r2,r3⟩:=dY.keep (af aZ);simp only at r0 r1 r2 r3;go_upto_region 7 with fail;rw[XZ.o];clear r0 r1 r2 r3;obtain ⟨r0,r1,r2,r3⟩:=Xs.four;obtain ⟨s0,s1,s2,s3⟩:=Dl.four;cases bq with
   |true=>
    have HF:=aa (show sM (l.drop (k+1)) (m.drop (k+1))=r by rw[← ez.o,fS.o,vY.o,Bool.true_and]);go_wp2_with (go_at_call 67;(with_reducible refine (sN.o _).mono ?_);rintro e w2 ⟨rfl,hb⟩;rw[vY.o];have dG:=aV bU hb;clear hb);go_roundw
    case rel=>exact ⟨k+1,by omega,by go_num,HF.o,dG.o⟩
    case measure=>simp[intOf];omega
   |false=>have HF:=aa (show r=false by rw[← ez.o,fS.o,vY.o,Bool.false_and]);go_wp2_with (go_at_call 67;(with_reducible refine (sN.o _).mono ?_);rintro e w2 ⟨rfl,hb⟩;rw[vY.o];have dG:=aV bU hb;clear hb);go_ret;exact ⟨by rw[HF.o];rfl,dG⟩
end Go.Proofs.YtbigkioechkngaaGreat
