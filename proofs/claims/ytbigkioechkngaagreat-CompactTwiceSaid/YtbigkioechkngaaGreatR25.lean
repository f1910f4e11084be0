/- The proof, part 26. -/
import Derived.Test.YtbigkioechkngaaGreatR24
set_option maxRecDepth 100000
set_option maxHeartbeats 8000000
namespace Go.Proofs.YtbigkioechkngaaGreat
open Go.RowKit Go.Proofs.Tryz
def yv (f:Int→Option aB) (x:aB×Int):aB:=(f (cD x.1)).getD aB.zero
def rr (f:Int→Option aB) (x:aB×Int) (k:Int):aj:=((yv f x).pos,cg x.1.size,k,false)
def goes (f:Int→Option aB) (i:Int) (l:List (aB×Int)):List (aB×Int):=l.filter (fun x=>decide ((yv f x).chunk=i))
theorem DG (a n:Int):∀l:List aj,(jn a n l).Perm ((a,n,1,false)::l)
 |[]=>List.Perm.refl _
 |u::l=>by
  unfold jn
  split
  ·exact List.Perm.refl _
  ·exact ((DG a n l).cons u).trans (List.Perm.swap _ _ _)
def Found (n:Int) (L:Nat) (x y:aB):Prop:=y.size=x.size∧y.packed=x.packed∧∃j:Nat,y.chunk=j∧j<L∧¬(j:Int)=n∧0≤y.pos∧y.pos+cg x.size≤16
theorem yl {n:Int}:∀(l:List (aB×Int)) {c c':List (List aj)} {f f':Int→Option aB},bH n l (c,f)=some (c',f')→cI c=true→(∀x∈l,cO x.1=true)→l.Pairwise (fun a b=>¬cD a.1=cD b.1) →
 cI c'=true∧c'.length=c.length∧(∀k,(∀x∈l,¬cD x.1=k)→f' k=f k)∧(∀x∈l,∃y,f' (cD x.1)=some y∧Found n c.length x.1 y) ∧
 ∀(i:Nat) t,c[i]?=some t→∃t',c'[i]?=some t'∧t'.Perm (t++(goes f' i l).map (fun x=>rr f' x 1))
 |[],c,c',f,f',h,hm,_,_=>by unfold bH at h;cases h;exact ⟨hm,rfl,fun _ _=>rfl,fun x hx=>by simp at hx,fun i t ht=>⟨t,ht,by simp[goes]⟩⟩
 |x::l,c,c',f,f',h,hm,hx,hp=>by
  rw[List.pairwise_cons] at hp;unfold bH at h;by_cases e:(bR c (cg x.1.size) n).2.2.2=true
  ·rw[if_pos e] at h
   have h1:=(bL _).1 (hx x (List.mem_cons_self ..));have h8:=(iF h1.2.2.1 h1.2.2.2.1).2;obtain ⟨_,j,u,e1,e2,e3,e4,e5,_,_,_,e9⟩:=mE e;have hj:=(List.getElem?_eq_some_iff.1 e1).1;have hlen:(bR c (cg x.1.size) n).1.length=c.length:=by rw[e9,List.length_set]
   obtain ⟨r1,r2,r3,r4,r5⟩:=yl l h (LJ e h8) (fun y hy=>hx y (List.mem_cons_of_mem _ hy)) hp.2;have hy:f' (cD x.1)=some ⟨(bR c (cg x.1.size) n).2.1,(bR c (cg x.1.size) n).2.2.1,x.1.size,x.1.packed⟩:=by rw[r3 _ fun z hz e=>hp.1 z hz e.symm];unfold qP;rw[if_pos rfl]
   refine ⟨r1,r2.trans hlen,fun k hk=>?_,fun z hz=>?_,fun i t ht=>?_⟩
   ·rw[r3 k fun z hz=>hk z (List.mem_cons_of_mem _ hz)]
    unfold qP;rw[if_neg fun e=>hk x (List.mem_cons_self ..) e.symm]
   ·rcases List.mem_cons.1 hz with rfl|hz
    ·exact ⟨_,hy,rfl,rfl,j,e3,hj,e2,e4,e5⟩
    ·rw[← hlen];exact r4 z hz
   ·have PR:yv f' x=⟨(bR c (cg x.1.size) n).2.1,(bR c (cg x.1.size) n).2.2.1,x.1.size,x.1.packed⟩:=by unfold yv;rw[hy];rfl
    by_cases hi:j=i
    ·subst hi
     rw[e1] at ht;injection ht with ht;subst ht;obtain ⟨t',g1,g2⟩:=r5 j _ (by rw[e9];exact List.getElem?_set_self hj);refine ⟨t',g1,g2.trans ?_⟩;have hg:goes f' (j:Int) (x::l)=x::goes f' j l:=List.filter_cons_of_pos (by rw[PR];exact decide_eq_true e3);rw[hg,List.map_cons];refine ((DG _ _ u).append_right _).trans (List.Perm.trans ?_ List.perm_middle.symm);rw[show rr f' x 1=((bR c (cg x.1.size) n).2.2.1,cg x.1.size,1,false) by unfold rr;rw[PR]];exact List.Perm.refl _
    ·obtain ⟨t',g1,g2⟩:=r5 i t (by rw[e9,List.getElem?_set_ne hi];exact ht)
     have hg:goes f' (i:Int) (x::l)=goes f' i l:=List.filter_cons_of_neg (by rw[PR];simp only[decide_eq_true_eq];rw[e3];omega);rw[hg];exact ⟨t',g1,g2⟩
  ·rw[if_neg e] at h;cases h
def mL (a:Int) (t:List aj):List aj:=(t.map (cJ a 0)).filter sH
theorem DJ:∀ {l:List aj} {e e':Int},iq e l=true→e'≤e→iq e' l=true
 |[],_,_,_,_=>rfl
 |u::l,e,e',h,he=>by unfold iq at h ⊢;simp only[Bool.and_eq_true,decide_eq_true_eq] at h ⊢;exact ⟨⟨h.1.1,by omega⟩,h.2⟩
theorem rV {g:aj→Option aj} (hg:∀u v,fD u=true→g u=some v→v.1=u.1∧v.2.1=u.2.1∧fD v=true):∀(l:List aj) {e:Int},iq e l=true→iq e (l.filterMap g)=true
 |[],_,_=>rfl
 |u::l,e,h=>by
  unfold iq at h;simp only[Bool.and_eq_true,decide_eq_true_eq] at h;have hl:=rV hg l h.2;have h1:=cj.1 h.1.1;cases hv:g u with
  |none=>rw[List.filterMap_cons_none hv];exact DJ hl (by omega)
  |some v=>rw[List.filterMap_cons_some hv];obtain ⟨a,b,c⟩:=hg u v h.1.1 hv;unfold iq;rw[a,b,c,hl,decide_eq_true h.1.2];rfl
theorem E6 {a k:Int} (h1:1≤k) (h2:k≤1000000) {l:List aj} (h:dE l=true):dE (l.map (cJ a k))=true:=by
 rw[← List.filterMap_eq_map];refine rV (fun u v hu hv=>?_) l h;have hu:=cj.1 hu;cases hv;simp only[cJ]
 split
 ·exact ⟨rfl,rfl,cj.2 ⟨hu.1,hu.2.1,hu.2.2.1,hu.2.2.2.1,by show 0≤k;omega,h2,fun h=>by have h:k=0:=h;omega⟩⟩
 ·exact ⟨rfl,rfl,cj.2 hu⟩
theorem TD {a:Int} {l:List aj} (h:dE l=true):dE (mL a l)=true:=by
 have e:mL a l=l.filterMap (fun u=>if sH (cJ a 0 u)=true then some (cJ a 0 u) else none):=by
  unfold mL;induction l with
  |nil=>rfl
  |cons u l ih=>
   rw[List.map_cons,List.filter_cons,List.filterMap_cons];have:=ih (by unfold dE at *;unfold iq at h;simp only[Bool.and_eq_true] at h;have:=cj.1 h.1.1;exact DJ h.2 (by omega))
   split <;> simp_all
 rw[e];refine rV (fun u v hu hv=>?_) l h;have hu:=cj.1 hu
 split at hv
 ·rename_i hk
  cases hv;unfold sH at hk;unfold cJ at hk ⊢
  split
  ·rename_i h1
   rw[if_pos h1] at hk;simp only[Int.lt_irrefl,decide_false,Bool.false_or] at hk;exact ⟨rfl,rfl,cj.2 ⟨hu.1,hu.2.1,hu.2.2.1,hu.2.2.2.1,by simp,by simp,fun _=>hk⟩⟩
  ·exact ⟨rfl,rfl,cj.2 hu⟩
 ·cases hv
theorem Bq {l:List aj} (h:dE l=true):dE (aP l)=true:=by
 have e:aP l=l.filterMap (fun u=>if 0<u.2.2.1 then some (zW u) else none):=by
  unfold aP;clear h
  induction l with
  |nil=>rfl
  |cons u l ih=>
   by_cases h:0<u.2.2.1
   ·rw[List.filter_cons_of_pos (by simpa using h),List.filterMap_cons_some (by rw[if_pos h]),List.map_cons,ih]
   ·rw[List.filter_cons_of_neg (by simpa using h),List.filterMap_cons_none (by rw[if_neg h]),ih]
 rw[e];refine rV (fun u v hu hv=>?_) l h;have hu:=cj.1 hu
 split at hv
 ·cases hv
  exact ⟨rfl,rfl,cj.2 ⟨hu.1,hu.2.1,hu.2.2.1,hu.2.2.2.1,hu.2.2.2.2.1,hu.2.2.2.2.2.1,fun _=>rfl⟩⟩
 ·cases hv
theorem rW:∀ {l:List aj} {e:Int},iq e l=true→l.Pairwise (fun a b=>a.1<b.1)∧∀u∈l,e≤u.1
 |[],_,_=>⟨List.Pairwise.nil,fun u hu=>by simp at hu⟩
 |u::l,e,h=>by
  unfold iq at h;simp only[Bool.and_eq_true,decide_eq_true_eq] at h;have h1:=cj.1 h.1.1;obtain ⟨h2,h3⟩:=rW h.2;refine ⟨List.pairwise_cons.2 ⟨fun v hv=>by have:=h3 v hv;omega,h2⟩,fun v hv=>?_⟩;rcases List.mem_cons.1 hv with rfl|hv
  ·exact h.1.2
  ·have:=h3 v hv;omega
theorem DK {a:Int}:∀ {t:List aj},(∃u∈t,u.1=a)→mh a (t.map (cJ a 1))=1
 |[],⟨u,hu,_⟩=>by simp at hu
 |v::t,⟨u,hu,e⟩=>by
  rw[List.map_cons,mh];by_cases h:v.1=a
  ·rw[if_pos (by unfold cJ;rw[if_pos h];exact h)];unfold cJ;rw[if_pos h]
  ·rw[if_neg (by unfold cJ;rw[if_neg h];exact h)]
   rcases List.mem_cons.1 hu with rfl|hu
   ·exact absurd e h
   ·exact DK ⟨u,hu,e⟩
theorem PS (a:Int) (t:List aj):pE a (-1) (t.map (cJ a 1))=mL a t:=by
 unfold pE mL;rw[List.map_map];congr 1;refine List.map_congr_left fun u _=>?_;simp only[Function.comp,uD,cJ];by_cases h:u.1=a
 ·simp[h]
 ·simp[h]
theorem PT {c:List (List aj)} {n j:Nat} {x:aB×Int} {y:aB} {t:List aj} (hm:cI c=true) (hx:cO x.1=true) (hn:x.1.chunk=n) (hy:y.chunk=j) (hjn:¬j=n) (ht:c[n]?=some t) (hu:∃u∈t,u.1=x.1.pos∧u.2.1=cg x.1.size) (h1:1≤x.2) (h2:x.2≤1000000) :
 ju c y x.1 x.2=(c.set j (((c[j]?).getD []).map (cJ y.pos x.2))).set n (mL x.1.pos t)∧cI (ju c y x.1 x.2)=true:=by
 have hj:dE ((c[j]?).getD [])=true:=by
  cases hc:c[j]? with
  |none=>rfl
  |some s=>exact (iJ.1 hm).1 s (List.mem_of_getElem? hc)
 have htm:=(iJ.1 hm).1 t (List.mem_of_getElem? ht);have rM:=(List.getElem?_eq_some_iff.1 ht).1;have yM:=rU (i:=j) hm (E6 (a:=y.pos) h1 h2 hj);have hg:(c.set j (((c[j]?).getD []).map (cJ y.pos x.2)))[n]?=some t:=by rw[List.getElem?_set_ne hjn];exact ht
 have zi:=rU (i:=n) yM (E6 (a:=x.1.pos) (k:=1) (by omega) (by omega) htm);have hg2:((c.set j (((c[j]?).getD []).map (cJ y.pos x.2))).set n (t.map (cJ x.1.pos 1)))[n]?=some (t.map (cJ x.1.pos 1)):=List.getElem?_set_self (by rw[List.length_set];exact rM);have QL:=DK (a:=x.1.pos) (t:=t) (by obtain ⟨u,a,b,_⟩:=hu;exact ⟨u,a,b⟩);have hh:G2 ((c.set j (((c[j]?).getD []).map (cJ y.pos x.2))).set n (t.map (cJ x.1.pos 1))) x.1=true:=by unfold G2;rw[hn,Int.toNat_natCast,hg2,hx,Option.getD_some,decide_eq_true (by rw[List.length_set,List.length_set];omega),Bool.and_self,Bool.true_and,List.any_eq_true];obtain ⟨u,a,b,d⟩:=hu;refine ⟨cJ x.1.pos 1 u,List.mem_map.2 ⟨u,a,rfl⟩,?_⟩;unfold cJ;rw[if_pos b];exact decide_eq_true ⟨b,d⟩
 have hT:fM ((c.set j (((c[j]?).getD []).map (cJ y.pos x.2))).set n (t.map (cJ x.1.pos 1))) x.1 (-1)=((c.set j (((c[j]?).getD []).map (cJ y.pos x.2))).set n (mL x.1.pos t),true):=by
  unfold fM;have hq:jD (t.map (cJ x.1.pos 1)) x.1.pos (-1)=(mL x.1.pos t,true):=by unfold jD;rw[if_pos ⟨E6 (by omega) (by omega) htm,by rw[QL];omega,by rw[QL];omega⟩,PS]
  rw[if_pos ⟨zi,hh⟩,hn,Int.toNat_natCast,hg2,Option.getD_some,hq,if_pos rfl,List.set_set]
 have e:ju c y x.1 x.2=(c.set j (((c[j]?).getD []).map (cJ y.pos x.2))).set n (mL x.1.pos t):=by unfold ju;simp only;rw[hy,hn,Int.toNat_natCast,Int.toNat_natCast,hg,Option.getD_some,hT,if_pos rfl]
 rw[e];exact ⟨rfl,rU yM (TD htm)⟩
def tW (f:Int→Option aB) (i:Int) (l:List (aB×Int)) (s:List aj):List aj:=l.foldl (fun s x=>if (yv f x).chunk=i then s.map (cJ (yv f x).pos x.2) else s) s
def E7 (l:List (aB×Int)) (s:List aj):List aj:=l.foldl (fun s x=>mL x.1.pos s) s
theorem TE {a:Int} {t:List aj} {u:aj} (h:u∈t) (hu:fD u=true) (ha:¬u.1=a):u∈mL a t:=by
 unfold mL;rw[List.mem_filter,List.mem_map];have hu:=cj.1 hu;refine ⟨⟨u,h,by unfold cJ;rw[if_neg ha]⟩,?_⟩;unfold sH;by_cases h0:u.2.2.1=0
 ·rw[hu.2.2.2.2.2.2 h0,Bool.or_true]
 ·rw[decide_eq_true (by omega),Bool.true_or]
theorem uZ {n:Nat} {f:Int→Option aB}:∀(l:List (aB×Int)) {c:List (List aj)} {t:List aj},cI c=true→(∀x∈l,cO x.1=true∧x.1.chunk=n∧1≤x.2∧x.2≤1000000∧∃j:Nat,(yv f x).chunk=j∧¬j=n)→l.Pairwise (fun a b=>a.1.pos<b.1.pos)→c[n]?=some t→(∀x∈l,∃u∈t,u.1=x.1.pos∧u.2.1=cg x.1.size) →
 cI (cH f l c)=true∧(cH f l c).length=c.length∧(cH f l c)[n]?=some (E7 l t)∧∀(i:Nat) s,¬i=n→c[i]?=some s→(cH f l c)[i]?=some (tW f i l s)
 |[],c,t,hm,_,_,ht,_=>⟨hm,rfl,ht,fun i s _ h=>h⟩
 |x::l,c,t,hm,hx,hp,ht,hu=>by
  rw[List.pairwise_cons] at hp;obtain ⟨x1,x2,x3,x4,j,x5,x6⟩:=hx x (List.mem_cons_self ..);obtain ⟨e,zi⟩:=PT hm x1 x2 x5 x6 ht (hu x (List.mem_cons_self ..)) x3 x4;have rM:=(List.getElem?_eq_some_iff.1 ht).1;have htm:=(iJ.1 hm).1 t (List.mem_of_getElem? ht);have hlen:(ju c (yv f x) x.1 x.2).length=c.length:=by rw[e,List.length_set,List.length_set]
  obtain ⟨r1,r2,r3,r4⟩:=uZ (n:=n) (f:=f) l (t:=mL x.1.pos t) zi (fun y hy=>hx y (List.mem_cons_of_mem _ hy)) hp.2 (by rw[e];exact List.getElem?_set_self (by rw[List.length_set];exact rM)) (fun y hy=>by
   obtain ⟨u,a,b,d⟩:=hu y (List.mem_cons_of_mem _ hy);exact ⟨u,TE a (iw htm a) (by have:=hp.1 y hy;omega),b,d⟩)
  have er:cH f (x::l) c=cH f l (ju c (yv f x) x.1 x.2):=rfl;rw[er];refine ⟨r1,r2.trans hlen,r3,fun i s hi hs=>?_⟩;have UX:=(List.getElem?_eq_some_iff.1 hs).1;have es:tW f i (x::l) s=tW f i l (if (yv f x).chunk=i then s.map (cJ (yv f x).pos x.2) else s):=rfl;rw[es];refine r4 i _ hi ?_;rw[e,List.getElem?_set_ne (fun h=>hi h.symm)];by_cases hj:j=i
  ·subst hj
   rw[List.getElem?_set_self UX,hs,if_pos x5];rfl
  ·rw[List.getElem?_set_ne hj,if_neg (by omega)];exact hs
theorem DL (a k:Int) (u:aj):(cJ a k u).1=u.1:=by unfold cJ;split <;> rfl
theorem ru {f:Int→Option aB} {i:Int}:∀(l:List (aB×Int)) {s A:List aj},s.Pairwise (fun a b=>¬a.1=b.1)→s.Perm (A++(goes f i l).map (fun x=>rr f x 1))→(tW f i l s).Perm (A++(goes f i l).map (fun x=>rr f x x.2))
 |[],s,A,_,h=>h
 |x::l,s,A,hs,h=>by
  have es:tW f i (x::l) s=tW f i l (if (yv f x).chunk=i then s.map (cJ (yv f x).pos x.2) else s):=rfl;rw[es];by_cases hx:(yv f x).chunk=i
  ·have hg:goes f i (x::l)=x::goes f i l:=List.filter_cons_of_pos (decide_eq_true hx)
   rw[hg,List.map_cons] at h ⊢;rw[if_pos hx];have hq:=(h.pairwise_iff (R:=fun a b:aj=>¬a.1=b.1) (fun h e=>h e.symm)).1 hs;have hm:=h.map (cJ (yv f x).pos x.2);have TF:∀ {u:aj},¬u.1=(yv f x).pos→cJ (yv f x).pos x.2 u=u:=fun h=>by unfold cJ;rw[if_neg h]
   rw[List.map_append,List.map_cons] at hm;rw[List.pairwise_append,List.pairwise_cons] at hq;have eA:A.map (cJ (yv f x).pos x.2)=A:=(List.map_congr_left (g:=id) fun u hu=>TF (hq.2.2 u hu _ (List.mem_cons_self ..))).trans (List.map_id _);have eR:((goes f i l).map (fun x=>rr f x 1)).map (cJ (yv f x).pos x.2)=(goes f i l).map (fun x=>rr f x 1):=(List.map_congr_left (g:=id) fun u hu=>TF (fun e=>hq.2.1.1 u hu e.symm)).trans (List.map_id _);have eX:cJ (yv f x).pos x.2 (rr f x 1)=rr f x x.2:=by unfold cJ rr;simp
   rw[eA,eR,eX,List.append_cons] at hm;have:=ru l (A:=A++[rr f x x.2]) (by
    rw[List.pairwise_map];exact hs.imp fun h=>by rw[DL,DL];exact h) hm
   rw[List.append_cons];exact this
  ·have hg:goes f i (x::l)=goes f i l:=List.filter_cons_of_neg (by simpa using hx)
   rw[hg] at h ⊢;rw[if_neg hx];exact ru l hs h
theorem u6:∀(l:List (aB×Int)) {t:List aj} {u:aj},u∈E7 l t→0<u.2.2.1→u∈t∧∀x∈l,¬u.1=x.1.pos
 |[],t,u,h,_=>⟨h,fun x hx=>by simp at hx⟩
 |x::l,t,u,h,h0=>by
  obtain ⟨h1,h2⟩:=u6 l (t:=mL x.1.pos t) h h0;unfold mL at h1;rw[List.mem_filter,List.mem_map] at h1;obtain ⟨⟨v,hv,e⟩,_⟩:=h1;unfold cJ at e
  split at e
  ·rw[← e] at h0;simp at h0
  ·rename_i hne
   subst e;refine ⟨hv,fun y hy=>?_⟩;rcases List.mem_cons.1 hy with rfl|hy
   ·exact hne
   ·exact h2 y hy
theorem rz {α:Type} {R:α→α→Prop} (hR:∀a b,R a b→R b a):∀ {l:List α},l.Pairwise R→∀a∈l,∀b∈l,¬a=b→R a b
 |[],_,a,ha,_,_,_=>by simp at ha
 |x::l,h,a,ha,b,hb,hab=>by
  rw[List.pairwise_cons] at h;rcases List.mem_cons.1 ha with e|ha
  ·rcases List.mem_cons.1 hb with e'|hb
   ·exact absurd (e.trans e'.symm) hab
   ·rw[e];exact h.1 b hb
  ·rcases List.mem_cons.1 hb with e'|hb
   ·rw[e'];exact hR _ _ (h.1 a ha)
   ·exact rz hR h.2 a ha b hb hab
end Go.Proofs.YtbigkioechkngaaGreat
