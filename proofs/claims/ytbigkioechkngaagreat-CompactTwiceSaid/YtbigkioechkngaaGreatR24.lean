/- The proof, part 25. -/
import Derived.Test.YtbigkioechkngaaGreatR20
set_option maxRecDepth 100000
set_option maxHeartbeats 8000000
namespace Go.Proofs.YtbigkioechkngaaGreat
open Go.RowKit Go.Proofs.Tryz
def iC (C:List ay) (c:Nat):List aj:=(C.filter (fun p=>decide (fP p=c))).map qF
theorem wS {n:Nat}:∀(C:List ay) (T T':List (List aj)),fY n T C=some T'→T.length=n→(∀p∈C,mf n p=true)∧T'.length=n∧∀c t,T[c]?=some t→T'[c]?=some (t++iC C c)
 |[],T,T',h,hT=>by unfold fY at h;injection h with h;subst h;exact ⟨fun p hp=>by simp at hp,hT,fun c t ht=>by rw[ht];simp[iC]⟩
 |p::C,T,T',h,hT=>by
  unfold fY at h
  split at h
  ·rename_i hp
   obtain ⟨h1,h2,h3⟩:=wS C _ _ h ((CH T p).trans hT);refine ⟨fun q hq=>?_,h2,fun c t ht=>?_⟩
   ·rcases List.mem_cons.1 hq with rfl|hq
    ·exact hp
    ·exact h1 q hq
   ·by_cases e:fP p=c
    ·subst e
     have hl:=(List.getElem?_eq_some_iff.1 ht).1;rw[h3 (fP p) (t++[qF p]) (by unfold sG;rw[List.getElem?_set_self hl,ht];rfl)];simp[iC]
    ·rw[h3 c t (by unfold sG;rw[List.getElem?_set_ne e];exact ht)]
     simp[iC,e]
  ·cases h
theorem Jb {n:Nat}:∀(C:List ay) (T:List (List aj)),(∀p∈C,mf n p=true)→∃T',fY n T C=some T'
 |[],T,_=>⟨T,rfl⟩
 |p::C,T,h=>by unfold fY;rw[if_pos (h p (List.mem_cons_self ..))];exact Jb C _ fun q hq=>h q (List.mem_cons_of_mem _ hq)
theorem yj {l:List dx} {c:Int} {T:List (List aj)} (h:bX l c=some T):∃n:Nat,c=n∧1≤n∧n≤1000∧dP l=true∧(∀p∈aX l,mf n p=true)∧T.length=n∧T.all dE=true∧∀i,i<n→T[i]?=some (iC (aX l) i):=by
 unfold bX at h
 split at h
 ·rename_i h0
  obtain ⟨n,rfl⟩:∃n:Nat,c=n:=⟨c.toNat,by omega⟩
  rw[Int.toNat_natCast] at h;cases hq:fY n (List.replicate n []) (aX l) with
  |none=>rw[hq] at h;cases h
  |some U=>
   rw[hq] at h;simp only at h
   split at h
   ·rename_i ha
    injection h with h;subst h;obtain ⟨h1,h2,h3⟩:=wS _ _ _ hq (by rw[List.length_replicate]);exact ⟨n,rfl,by omega,by omega,h0.2.2,h1,h2,ha,fun i hi=>by rw[h3 i [] (by rw[List.getElem?_replicate];simp[hi])];rfl⟩
   ·cases h
 ·cases h
theorem LI {l:List dx} {n:Nat} {T:List (List aj)} (h1:1≤n) (h2:n≤1000) (hm:dP l=true) (hi:∀p∈aX l,mf n p=true) (hT:T.length=n) (ha:T.all dE=true) (hg:∀i,i<n→T[i]?=some (iC (aX l) i)):bX l n=some T:=by
 obtain ⟨U,hU⟩:=Jb (n:=n) (aX l) (List.replicate n []) hi;obtain ⟨_,k2,k3⟩:=wS _ _ _ hU (by rw[List.length_replicate]);have e:U=T:=List.ext_getElem? fun i=>by
  by_cases hi:i<n
  ·rw[hg i hi,k3 i [] (by rw[List.getElem?_replicate];simp[hi])];rfl
  ·rw[List.getElem?_eq_none (by omega),List.getElem?_eq_none (by omega)]
 unfold bX;rw[if_pos ⟨by omega,by omega,hm⟩,Int.toNat_natCast,hU];simp only;rw[e,if_pos ha]
def WS (x:aB×Int):aj:=(x.1.pos,cg x.1.size,x.2,true)
theorem DF {C:List ay} {L:Nat} (h:∀p∈C,mf L p=true) (i:Nat):iC C i=(fE C i).map WS:=by
 unfold iC fE;rw[List.map_map];have e:C.filter (fun p=>decide (fP p=i))=C.filter (fun p=>rX p.1&&decide ((bI p.1).chunk=i)):=by
  refine List.filter_congr fun p hp=>?_;have hp:=h p hp;unfold mf at hp;rw[Bool.and_eq_true] at hp;rw[hp.1,Bool.true_and];have hc:0≤(bI p.1).chunk:=by have:=hp.1;unfold rX at this;rw[Bool.and_eq_true] at this;exact ((bL _).1 this.2).1
  unfold fP;exact decide_eq_decide.2 ⟨fun h=>by omega,fun h=>by omega⟩
 rw[e];rfl
theorem rq {p:cm} (h:cG p=true) {i:Nat} {t:List aj} (ht:p.tabs[i]?=some t):dE t=true∧aP t=(bC p.aw i).map WS∧dE (aP t)=true:=by
 obtain ⟨_,h2,_,_,_,_,h7⟩:=bO.1 h;unfold cI at h2;simp only[Bool.and_eq_true,List.all_eq_true] at h2;obtain ⟨n,e,_,_,_,k1,k2,k3,k4⟩:=yj h7;have hn:p.tabs.length=n:=by omega
 have hi:=(List.getElem?_eq_some_iff.1 ht).1;have hg:=k4 i (by omega);rw[List.getElem?_map,ht,Option.map_some,Option.some.injEq] at hg;refine ⟨h2.1 t (List.mem_of_getElem? ht),by rw[hg,DF k1];rfl,?_⟩;rw[List.all_eq_true] at k3;exact k3 _ (List.mem_map.2 ⟨t,List.mem_of_getElem? ht,rfl⟩)
theorem Jc {a n:Int} (ho:fD (a,n,1,false)=true):∀(l:List aj) {e:Int},iq e l=true→e≤a→(∀u∈l,∀z:Int,a≤z→z<a+n→¬(u.1≤z∧z<u.1+u.2.1))→iq e (jn a n l)=true
 |[],e,_,he,_=>by unfold jn iq;rw[ho,decide_eq_true he];rfl
 |u::l,e,h,he,hc=>by
  have hcu:=hc u (List.mem_cons_self ..);unfold iq at h;simp only[Bool.and_eq_true,decide_eq_true_eq] at h;have h1:=cj.1 h.1.1;have h2:=cj.1 ho;simp only at h2;unfold jn
  split
  ·rename_i hlt
   have:a+n≤u.1:=by
    by_cases g:a+n≤u.1
    ·exact g
    ·exact absurd ⟨Int.le_refl _,by omega⟩ (hcu u.1 (by omega) (by omega))
   simp only[iq,ho,h.1.1,h.2,decide_eq_true he,decide_eq_true this,Bool.and_self]
  ·have:u.1+u.2.1≤a:=by
    by_cases g:u.1+u.2.1≤a
    ·exact g
    ·exact absurd ⟨by omega,by omega⟩ (hcu a (Int.le_refl _) (by omega))
   rw[iq,h.1.1,decide_eq_true h.1.2,Jc ho l h.2 this fun v hv=>hc v (List.mem_cons_of_mem _ hv)];rfl
theorem iJ {c:List (List aj)}:cI c=true↔(∀t∈c,dE t=true)∧1≤c.length∧c.length≤1000:=by unfold cI;rw[Bool.and_eq_true,List.all_eq_true,decide_eq_true_eq]
theorem rU {c:List (List aj)} {i:Nat} {t:List aj} (h:cI c=true) (ht:dE t=true):cI (c.set i t)=true:=by
 obtain ⟨h1,h2⟩:=iJ.1 h;refine iJ.2 ⟨fun s hs=>?_,by rw[List.length_set];exact h2⟩;rcases List.mem_or_eq_of_mem_set hs with hs|rfl
 ·exact h1 s hs
 ·exact ht
theorem PQ {a n:Int} (h1:1≤n) (h2:n≤8) (h3:0≤a) (h4:a+n≤16):fD (a,n,1,false)=true:=cj.2 ⟨h1,h2,h3,h4,by simp,by simp,fun h=>absurd h (by simp)⟩
theorem LJ {c:List (List aj)} {n no:Int} (h:(bR c n no).2.2.2=true) (h8:n≤8):cI (bR c n no).1=true:=by obtain ⟨hm,i,u,_,_,_,h4,h5,h6,h7,h9,e⟩:=mE h;rw[e];exact rU hm (Jc (PQ h6 h8 h4 h5) u h7 h4 (Bp h9 h4))
end Go.Proofs.YtbigkioechkngaaGreat
