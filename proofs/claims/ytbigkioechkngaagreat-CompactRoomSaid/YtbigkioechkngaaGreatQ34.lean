/- The proof, part 35. -/
import Derived.Test.YtbigkioechkngaaGreatQ28
set_option maxRecDepth 100000
set_option maxHeartbeats 8000000
namespace Go.Proofs.YtbigkioechkngaaGreat
open Go.RowKit
def iH (C:List az) (c:Nat):List aj:=(C.filter (fun p=>decide (fX p=c))).map qQ
theorem xA {n:Nat}:∀(C:List az) (T T':List (List aj)),gA n T C=some T'→T.length=n→(∀p∈C,mE n p=true)∧T'.length=n∧∀c t,T[c]?=some t→T'[c]?=some (t++iH C c)
 |[],T,T',h,hT=>by unfold gA at h;injection h with h;subst h;exact ⟨fun p hp=>by simp at hp,hT,fun c t ht=>by rw[ht];simp[iH]⟩
 |p::C,T,T',h,hT=>by
  unfold gA at h
  split at h
  ·rename_i hp
   obtain ⟨h1,h2,h3⟩:=xA C _ _ h ((C6 T p).trans hT);refine ⟨fun q hq=>?_,h2,fun c t ht=>?_⟩
   ·rcases List.mem_cons.1 hq with rfl|hq
    ·exact hp
    ·exact h1 q hq
   ·by_cases e:fX p=c
    ·subst e
     have hl:=(List.getElem?_eq_some_iff.1 ht).1;rw[h3 (fX p) (t++[qQ p]) (by unfold sR;rw[List.getElem?_set_self hl,ht];rfl)];simp[iH]
    ·rw[h3 c t (by unfold sR;rw[List.getElem?_set_ne e];exact ht)]
     simp[iH,e]
  ·cases h
theorem JG {n:Nat}:∀(C:List az) (T:List (List aj)),(∀p∈C,mE n p=true)→∃T',gA n T C=some T'
 |[],T,_=>⟨T,rfl⟩
 |p::C,T,h=>by unfold gA;rw[if_pos (h p (List.mem_cons_self ..))];exact JG C _ fun q hq=>h q (List.mem_cons_of_mem _ hq)
theorem yI {l:List dy} {c:Int} {T:List (List aj)} (h:cg l c=some T):∃n:Nat,c=n∧1≤n∧n≤1000∧dR l=true∧(∀p∈aY l,mE n p=true)∧T.length=n∧T.all dD=true∧∀i,i<n→T[i]?=some (iH (aY l) i):=by
 unfold cg at h
 split at h
 ·rename_i h0
  obtain ⟨n,rfl⟩:∃n:Nat,c=n:=⟨c.toNat,by omega⟩
  rw[Int.toNat_natCast] at h;cases hq:gA n (List.replicate n []) (aY l) with
  |none=>rw[hq] at h;cases h
  |some U=>
   rw[hq] at h;simp only at h
   split at h
   ·rename_i ha
    injection h with h;subst h;obtain ⟨h1,h2,h3⟩:=xA _ _ _ hq (by rw[List.length_replicate]);exact ⟨n,rfl,by omega,by omega,h0.2.2,h1,h2,ha,fun i hi=>by rw[h3 i [] (by rw[List.getElem?_replicate];simp[hi])];rfl⟩
   ·cases h
 ·cases h
theorem Mi {l:List dy} {n:Nat} {T:List (List aj)} (h1:1≤n) (h2:n≤1000) (hm:dR l=true) (hi:∀p∈aY l,mE n p=true) (hT:T.length=n) (ha:T.all dD=true) (hg:∀i,i<n→T[i]?=some (iH (aY l) i)):cg l n=some T:=by
 obtain ⟨U,hU⟩:=JG (n:=n) (aY l) (List.replicate n []) hi;obtain ⟨_,k2,k3⟩:=xA _ _ _ hU (by rw[List.length_replicate]);have e:U=T:=List.ext_getElem? fun i=>by
  by_cases hi:i<n
  ·rw[hg i hi,k3 i [] (by rw[List.getElem?_replicate];simp[hi])];rfl
  ·rw[List.getElem?_eq_none (by omega),List.getElem?_eq_none (by omega)]
 unfold cg;rw[if_pos ⟨by omega,by omega,hm⟩,Int.toNat_natCast,hU];simp only;rw[e,if_pos ha]
def Qu:List aj→Int
 |[]=>0
 |u::l=>u.2.1+Qu l
theorem Ee:∀(l:List aj) {e:Int},hP e l=true→e≤16→e+Qu l≤16
 |[],e,_,he=>by unfold Qu;omega
 |u::l,e,h,_=>by unfold hP at h;simp only[Bool.and_eq_true,decide_eq_true_eq] at h;have h1:=bW.1 h.1.1;have h2:=Ee l h.2 (by omega);unfold Qu;omega
def Uk (x:aA×Int):aj:=(x.1.pos,bQ x.1.size,x.2,true)
theorem Ef {C:List az} {L:Nat} (h:∀p∈C,mE L p=true) (i:Nat):iH C i=(fI C i).map Uk:=by
 unfold iH fI;rw[List.map_map];have e:C.filter (fun p=>decide (fX p=i))=C.filter (fun p=>sD p.1&&decide ((bM p.1).chunk=i)):=by
  refine List.filter_congr fun p hp=>?_;have hp:=h p hp;unfold mE at hp;rw[Bool.and_eq_true] at hp;rw[hp.1,Bool.true_and];have hc:0≤(bM p.1).chunk:=by have:=hp.1;unfold sD at this;rw[Bool.and_eq_true] at this;exact ((bz _).1 this.2).1
  unfold fX;exact decide_eq_decide.2 ⟨fun h=>by omega,fun h=>by omega⟩
 rw[e];rfl
theorem oN {p:bX} (h:cA p=true) {i:Nat} {t:List aj} (ht:p.tabs[i]?=some t):dD t=true∧aQ t=(br p.av i).map Uk∧dD (aQ t)=true:=by
 obtain ⟨_,h2,_,_,_,_,h7⟩:=bF.1 h;unfold cF at h2;simp only[Bool.and_eq_true,List.all_eq_true] at h2;obtain ⟨n,e,_,_,_,k1,k2,k3,k4⟩:=yI h7;have hn:p.tabs.length=n:=by omega
 have hi:=(List.getElem?_eq_some_iff.1 ht).1;have hg:=k4 i (by omega);rw[List.getElem?_map,ht,Option.map_some,Option.some.injEq] at hg;refine ⟨h2.1 t (List.mem_of_getElem? ht),by rw[hg,Ef k1];rfl,?_⟩;rw[List.all_eq_true] at k3;exact k3 _ (List.mem_map.2 ⟨t,List.mem_of_getElem? ht,rfl⟩)
theorem Eg {u:List Bool} {k:Nat} {n:Int} (h:iR u k n=true):∀f a,a≤k→k<a+f→(a:Int)≤gP u n f a∧gP u n f a≤k
 |0,a,h1,h2=>by omega
 |f+1,a,h1,h2=>by
  unfold gP;by_cases e:iR u a n=true
  ·rw[if_pos e];omega
  ·rw[if_neg e]
   have hne:a≠k:=fun h'=>e (h'▸h);have:=Eg h f (a+1) (by omega) (by omega);omega
theorem JH {t:List aj} {n:Int} {S:Nat} (hS:∀u∈t,u.1+u.2.1≤S) (h1:1≤n) (h2:S+n≤16):0≤fH (fP t) n∧fH (fP t) n≤S:=by
 have hf:iR (fP t) S n=true:=Ab ⟨h1,by rw[kA];omega⟩ fun k hk=>by unfold fP;rw[List.getElem?_map,List.getElem?_range (by omega),Option.map_some,Option.some.injEq,List.any_eq_false];intro u hu;have:=hS u hu;unfold jX;simp only[decide_eq_true_eq];omega
 have:=Eg hf 16 0 (by omega) (by omega);unfold fH;rw[kA];omega
theorem JI {a n:Int} (ho:fG (a,n,1,false)=true):∀(l:List aj) {e:Int},hP e l=true→e≤a→(∀u∈l,∀z:Int,a≤z→z<a+n→¬(u.1≤z∧z<u.1+u.2.1))→hP e (iK a n l)=true
 |[],e,_,he,_=>by unfold iK hP;rw[ho,decide_eq_true he];rfl
 |u::l,e,h,he,hc=>by
  have hcu:=hc u (List.mem_cons_self ..);unfold hP at h;simp only[Bool.and_eq_true,decide_eq_true_eq] at h;have h1:=bW.1 h.1.1;have h2:=bW.1 ho;simp only at h2;unfold iK
  split
  ·rename_i hlt
   have:a+n≤u.1:=by
    by_cases g:a+n≤u.1
    ·exact g
    ·exact absurd ⟨Int.le_refl _,by omega⟩ (hcu u.1 (by omega) (by omega))
   simp only[hP,ho,h.1.1,h.2,decide_eq_true he,decide_eq_true this,Bool.and_self]
  ·have:u.1+u.2.1≤a:=by
    by_cases g:u.1+u.2.1≤a
    ·exact g
    ·exact absurd ⟨by omega,by omega⟩ (hcu a (Int.le_refl _) (by omega))
   rw[hP,h.1.1,decide_eq_true h.1.2,JI ho l h.2 this fun v hv=>hc v (List.mem_cons_of_mem _ hv)];rfl
theorem gL {c:List (List aj)}:cF c=true↔(∀t∈c,dD t=true)∧1≤c.length∧c.length≤1000:=by unfold cF;rw[Bool.and_eq_true,List.all_eq_true,decide_eq_true_eq]
theorem sw {c:List (List aj)} {i:Nat} {t:List aj} (h:cF c=true) (ht:dD t=true):cF (c.set i t)=true:=by
 obtain ⟨h1,h2⟩:=gL.1 h;refine gL.2 ⟨fun s hs=>?_,by rw[List.length_set];exact h2⟩;rcases List.mem_or_eq_of_mem_set hs with hs|rfl
 ·exact h1 s hs
 ·exact ht
theorem Qv {a n:Int} (h1:1≤n) (h2:n≤8) (h3:0≤a) (h4:a+n≤16):fG (a,n,1,false)=true:=bW.2 ⟨h1,h2,h3,h4,by simp,by simp,fun h=>absurd h (by simp)⟩
theorem uq {c:List (List aj)} {n no:Int} (h:(bL c n no).2.2.2=true) (h8:n≤8):cF (bL c n no).1=true:=by obtain ⟨hm,i,u,_,_,_,h4,h5,h6,h7,h9,e⟩:=kD h;rw[e];exact sw hm (JI (Qv h6 h8 h4 h5) u h7 h4 (BL h9 h4))
end Go.Proofs.YtbigkioechkngaaGreat
