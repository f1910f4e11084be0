/- The proof, part 12. -/
import Derived.Test.YtbigkioechkngaaGreatQ9
import Derived.Test.YtbigkioechkngaaGreatQ10
import Derived.Test.YtbigkioechkngaaGreatProg
import Derived.Outline
set_option maxRecDepth 100000
set_option maxHeartbeats 8000000
namespace Go.Proofs.YtbigkioechkngaaGreat
structure dX where
 wt:Int
 num:Int
 ins:List Int
deriving Inhabited
def pO (a b:dX):Bool:=decide (a.wt<b.wt) || (a.wt==b.wt&&decide (a.num<b.num))
def qR (l:List dX) (i:Nat):dX:=(l[i]?).getD default
def o8 (l:List dX):Nat→Nat→Nat→Nat
 |0,_,p=>p
 |n+1,i,p=>o8 l n (i+1) (if pO (qR l i) (qR l p)=true then i else p)
def cY (l:List dX):Nat:=o8 l (l.length-1) 1 0
theorem wE (l:List dX):∀(n i p:Nat),i+n=l.length→p<l.length→(∀j,j<i→(qR l p).wt≤(qR l j).wt)→o8 l n i p<l.length∧∀j,j<l.length→(qR l (o8 l n i p)).wt≤(qR l j).wt
 |0,i,p,h1,h2,h3=>⟨h2,fun j hj=>h3 j (by omega)⟩
 |n+1,i,p,h1,h2,h3=>by
  unfold o8
  split
  ·rename_i hl
   unfold pO at hl;have hw:(qR l i).wt≤(qR l p).wt:=by simp only[Bool.or_eq_true,decide_eq_true_eq,Bool.and_eq_true,beq_iff_eq] at hl;omega
   refine wE l n (i+1) i (by omega) (by omega) fun j hj=>?_;by_cases e:j=i
   ·subst e;exact Int.le_refl _
   ·exact Int.le_trans hw (h3 j (by omega))
  ·rename_i hl
   have hw:(qR l p).wt≤(qR l i).wt:=by unfold pO at hl;simp only[Bool.or_eq_true,decide_eq_true_eq,Bool.and_eq_true,beq_iff_eq] at hl;omega
   refine wE l n (i+1) p (by omega) h2 fun j hj=>?_;by_cases e:j=i
   ·subst e;exact hw
   ·exact h3 j (by omega)
theorem lW {l:List dX} (h:1≤l.length):cY l<l.length∧∀x∈l,(qR l (cY l)).wt≤x.wt:=by
 have h0:∀j,j<1→(qR l 0).wt≤(qR l j).wt:=by
  intro j hj;obtain rfl:j=0:=by omega
  exact Int.le_refl _
 have:=wE l (l.length-1) 1 0 (by omega) (by omega) h0;refine ⟨this.1,fun x hx=>?_⟩;obtain ⟨j,hj⟩:=List.getElem?_of_mem hx;have h2:=this.2 j (List.getElem?_eq_some_iff.1 hj).1;unfold qR at h2;rw[hj] at h2;exact h2
def sU (a b:dX):dX:=⟨a.wt+b.wt,min a.num b.num,a.ins++b.ins⟩
def gy (out:List Int) (s:Int):List Int:=out.set s.toNat ((out[s.toNat]?).getD 0+1)
def gI (out:List Int) (l:List Int):List Int:=l.foldl gy out
theorem tO (out:List Int) (s:Int):(gy out s).length=out.length:=by unfold gy;rw[List.length_set]
theorem tP (l:List Int):∀out:List Int,(gI out l).length=out.length:=by
 induction l with
 |nil=>intro out;rfl
 |cons s l ih=>intro out;unfold gI at *;rw[List.foldl_cons,ih,tO]
def Aq (l:List dX):List dX:=((l.eraseIdx (cY l)).eraseIdx (cY (l.eraseIdx (cY l))))++[sU (qR l (cY l)) (qR (l.eraseIdx (cY l)) (cY (l.eraseIdx (cY l))))]
def C8 (l:List dX) (out:List Int):List Int:=gI out ((qR l (cY l)).ins++(qR (l.eraseIdx (cY l)) (cY (l.eraseIdx (cY l)))).ins)
theorem ach {l:List dX} (h:2≤l.length):(Aq l).length=l.length-1:=by unfold Aq;have h1:=(lW (l:=l) (by omega)).1;have e1:(l.eraseIdx (cY l)).length=l.length-1:=List.length_eraseIdx_of_lt h1;have h2:=(lW (l:=l.eraseIdx (cY l)) (by omega)).1;rw[List.length_append,List.length_eraseIdx_of_lt h2,e1,List.length_singleton];omega
def oB:Nat→List dX→List Int→List Int
 |0,_,out=>out
 |n+1,l,out=>if 2≤l.length then oB n (Aq l) (C8 l out) else out
def sV (f:List Int) (i:Nat):List dX:=if 0<(f[i]?).getD 0 then [⟨(f[i]?).getD 0,(i:Nat),[(i:Nat)]⟩] else []
def cm (f:List Int):Nat→List dX
 |0=>[]
 |n+1=>cm f n++sV f n
def pd (f:List Int) (l:List dX):List Int:=if l.length=1 then (List.replicate f.length 0).set (qR l 0).num.toNat 1 else List.replicate f.length 0
def iT (f:List Int):List Int:=oB f.length (cm f f.length) (pd f (cm f f.length))
theorem N7 (f:List Int) (i:Nat):(sV f i).length≤1:=by unfold sV;split <;> simp
theorem Ha (f:List Int):∀n,(cm f n).length≤n
 |0=>Nat.le_refl _
 |n+1=>by have:=Ha f n;have:=N7 f n;rw[cm,List.length_append];omega
theorem C9:∀(n:Nat) (l:List dX) (out:List Int),(oB n l out).length=out.length
 |0,_,_=>rfl
 |n+1,l,out=>by
  unfold oB
  split
  ·rw[C9 n];unfold C8;rw[tP]
  ·rfl
theorem wF (f:List Int):(iT f).length=f.length:=by unfold iT;rw[C9];unfold pd;split <;> simp
theorem KF {n:Nat} {l:List dX} {out:List Int} (h:l.length≤1):oB n l out=out:=by
 cases n with
 |zero=>rfl
 |succ n=>unfold oB;rw[if_neg (by omega)]
def mY:Nat→Int
 |0=>0
 |1=>1
 |n+2=>mY n+mY (n+1)
theorem mG:∀n,0≤mY n∧1≤mY (n+1)
 |0=>⟨by decide,by decide⟩
 |n+1=>by have:=mG n;exact ⟨by omega,by rw[mY];omega⟩
theorem N8 {a b:Nat} (h:a≤b):mY a≤mY b:=by
 induction b with
 |zero=>
  have:a=0:=by omega
  subst this;exact Int.le_refl _
 |succ b ih=>
  by_cases e:a=b+1
  ·subst e;exact Int.le_refl _
  ·have h1:=ih (by omega)
   refine Int.le_trans h1 ?_;cases b with
   |zero=>decide
   |succ b=>have:=(mG b).1;rw[mY];omega
abbrev EM:=dX×Nat×Int
theorem R9 {l m:List Int} (p:l.Perm m):l.sum=m.sum:=by
 induction p with
 |nil=>rfl
 |cons x _ ih=>simp[ih]
 |swap x y l=>simp only[List.sum_cons];omega
 |trans _ _ h1 h2=>exact h1.trans h2
structure Co (N:Nat) (out:List Int) (G:List EM):Prop where
 len:out.length=N
 one:∀x∈G,mY (x.2.1+1)≤x.1.wt∧mY x.2.1≤x.2.2∧∀s∈x.1.ins,0≤s∧s<N∧(out[s.toNat]?).getD 0≤x.2.1
 two:G.Pairwise fun x y=>y.2.2≤x.1.wt∧x.2.2≤y.1.wt
 nodup:(G.map fun x=>x.1.ins).flatten.Nodup
 sum:(G.map fun x=>x.1.wt).sum≤1000
 rest:∀s:Nat,(s:Int)∉(G.map fun x=>x.1.ins).flatten→(out[s]?).getD 0≤1
 low:∀x∈out,0≤x
 Hb:∀x∈G,0≤x.1.num∧x.1.num<N
 tot:(G.map fun x=>x.1.ins).flatten.length≤N
theorem Co.perm {N:Nat} {out:List Int} {G H:List EM} (h:Co N out G) (p:G.Perm H):Co N out H where
 len:=h.len
 one:=fun x hx=>h.one x (p.symm.subset hx)
 two:=(p.pairwise_iff (fun Ci=>⟨Ci.2,Ci.1⟩)).1 h.two
 nodup:=((p.map fun x=>x.1.ins).flatten.nodup_iff).1 h.nodup
 sum:=by have:(G.map fun x=>x.1.wt).sum=(H.map fun x=>x.1.wt).sum:=R9 (p.map fun x=>x.1.wt);rw[← this];exact h.sum
 rest:=fun s hs=>h.rest s (fun hm=>hs ((p.map fun x=>x.1.ins).flatten.subset hm))
 low:=h.low
 Hb:=fun x hx=>h.Hb x (p.symm.subset hx)
 tot:=by rw[← (p.map fun x=>x.1.ins).flatten.length_eq];exact h.tot
theorem Ar:∀(l:List Int) (out:List Int),l.Nodup→(∀s∈l,0≤s∧s<out.length)→∀s:Nat,((gI out l)[s]?).getD 0=(out[s]?).getD 0+if (s:Int)∈l then 1 else 0
 |[],out,_,_,s=>by simp[gI]
 |a::l,out,hn,hb,s=>by
  have ha:=hb a (by simp);have qj:=List.nodup_cons.1 hn;have ih:=Ar l (gy out a) qj.2 (fun x hx=>by rw[tO];exact hb x (by simp[hx])) s;show ((gI (gy out a) l)[s]?).getD 0=_;rw[ih];by_cases e:(s:Int)=a
  ·have hs:a.toNat=s:=by omega
   have h1:((gy out a)[s]?).getD 0=(out[s]?).getD 0+1:=by unfold gy;rw[hs,List.getElem?_set_self (by omega)];rfl
   rw[h1,if_neg (by rw[e];exact qj.1),if_pos (by simp[e])];omega
  ·have h1:((gy out a)[s]?).getD 0=(out[s]?).getD 0:=by
    unfold gy;rw[List.getElem?_set_ne (by omega)]
   rw[h1];by_cases e2:(s:Int)∈l
   ·rw[if_pos e2,if_pos (by simp[e2])]
   ·rw[if_neg e2,if_neg (by simp[e,e2])]
theorem Au {out:List Int} (s:Int) (h:∀x∈out,0≤x):∀x∈gy out s,0≤x:=by
 intro x hx;unfold gy at hx;rcases List.mem_or_eq_of_mem_set hx with hx|rfl
 ·exact h x hx
 ·cases hs:out[s.toNat]? with
  |none=>simp
  |some y=>have:=h y (List.mem_of_getElem? hs);simp;omega
theorem Av (l:List Int):∀ {out:List Int},(∀x∈out,0≤x)→∀x∈gI out l,0≤x:=by
 induction l with
 |nil=>intro out h;exact h
 |cons a l ih=>intro out h;unfold gI at *;rw[List.foldl_cons];exact ih (Au a h)
theorem Co.join {N:Nat} {out:List Int} {a b:dX} {da db:Nat} {ma mb:Int} {R:List EM} (h:Co N out ((a,da,ma)::(b,db,mb)::R)) (_ha:∀x∈R,a.wt≤x.1.wt) (hab:a.wt≤b.wt) (hb:∀x∈R,b.wt≤x.1.wt) :
 Co N (gI out (a.ins++b.ins)) ((sU a b,max da db+1,b.wt)::R):=by
 have h1:=h.one (a,da,ma) (by simp);have h2:=h.one (b,db,mb) (by simp);have hp:=List.pairwise_cons.1 h.two;have hp2:=List.pairwise_cons.1 hp.2;have akm:=hp.1 (b,db,mb) (by simp);simp only at h1 h2 akm;have qj:=h.nodup;simp only[List.map_cons,List.flatten_cons] at qj;have akn:(a.ins++b.ins).Nodup:=by rw[← List.append_assoc] at qj;exact (List.nodup_append.1 qj).1
 have hget:=Ar (a.ins++b.ins) out akn (fun s hs=>by
  rw[h.len];rcases List.mem_append.1 hs with hs|hs
  ·exact ⟨(h1.2.2 s hs).1,(h1.2.2 s hs).2.1⟩
  ·exact ⟨(h2.2.2 s hs).1,(h2.2.2 s hs).2.1⟩)
 have hda:mY (max da db+2)≤a.wt+b.wt∧mY (max da db+1)≤b.wt:=by
  by_cases e:da≤db
  ·rw[Nat.max_eq_right e]
   have:mY (db+2)=mY db+mY (db+1):=rfl;omega
  ·rw[Nat.max_eq_left (by omega)]
   have:mY (da+2)=mY da+mY (da+1):=rfl;omega
 refine {len:=by rw[tP];exact h.len,one:=?_,two:=?_,nodup:=?_,sum:=?_,rest:=?_,low:=Av _ h.low,Hb:=?_,tot:=?_}
 ·intro x hx
  rcases List.mem_cons.1 hx with rfl|hx
  ·refine ⟨hda.1,hda.2,fun s hs=>?_⟩
   have nU:s∈a.ins++b.ins:=hs;have key:∃d,d≤max da db∧0≤s∧s<N∧(out[s.toNat]?).getD 0≤(d:Nat):=by
    rcases List.mem_append.1 nU with h3|h3
    ·have:=h1.2.2 s h3;exact ⟨da,Nat.le_max_left _ _,this.1,this.2.1,this.2.2⟩
    ·have:=h2.2.2 s h3;exact ⟨db,Nat.le_max_right _ _,this.1,this.2.1,this.2.2⟩
   obtain ⟨d,k1,k2,k3,k4⟩:=key;refine ⟨k2,k3,?_⟩;rw[hget s.toNat,if_pos (by rw[show ((s.toNat:Nat):Int)=s by omega];exact nU)];simp only;omega
  ·have h3:=h.one x (by simp[hx])
   refine ⟨h3.1,h3.2.1,fun s hs=>?_⟩;have h4:=h3.2.2 s hs;refine ⟨h4.1,h4.2.1,?_⟩;rw[hget s.toNat,if_neg]
   ·simpa using h4.2.2
   ·rw[show ((s.toNat:Nat):Int)=s by omega]
    intro hm;rw[← List.append_assoc] at qj;exact (List.nodup_append.1 qj).2.2 s hm s (List.mem_flatten.2 ⟨_,List.mem_map.2 ⟨x,hx,rfl⟩,hs⟩) rfl
 ·refine List.pairwise_cons.2 ⟨fun x hx=>⟨?_,hb x hx⟩,hp2.2⟩
  have h3:=(hp.1 x (by simp[hx])).1;have h4:=(hp2.1 x hx).1;have h5:=(mG da).2;have h6:=(mG db).2;simp only at h3 h4;show x.2.2≤a.wt+b.wt;omega
 ·simp only[List.map_cons,List.flatten_cons,sU]
  rw[List.append_assoc];exact qj
 ·have:=h.sum
  simp only[List.map_cons,List.sum_cons] at this ⊢;show a.wt+b.wt+_≤1000;omega
 ·intro s hs
  rw[hget s];simp only[List.map_cons,List.flatten_cons,sU,List.mem_append,not_or] at hs;rw[if_neg (by simp only[List.mem_append,not_or];exact ⟨hs.1.1,hs.1.2⟩)];have:=h.rest s (by simp only[List.map_cons,List.flatten_cons,List.mem_append,not_or];exact ⟨hs.1.1,hs.1.2,hs.2⟩);omega
 ·intro x hx
  rcases List.mem_cons.1 hx with rfl|hx
  ·have n1:=h.Hb (a,da,ma) (by simp)
   have n2:=h.Hb (b,db,mb) (by simp);simp only at n1 n2;show 0≤min a.num b.num∧min a.num b.num<N;omega
  ·exact h.Hb x (by simp[hx])
 ·have:=h.tot
  simp only[List.map_cons,List.flatten_cons,sU,List.length_append] at this ⊢;omega
theorem Co.small {N:Nat} {out:List Int} {G:List EM} (h:Co N out G):∀x∈out,x≤15:=by
 intro x hx;obtain ⟨s,hs⟩:=List.getElem?_of_mem hx;by_cases hm:(s:Int)∈(G.map fun x=>x.1.ins).flatten
 ·obtain ⟨q,hq,Ex⟩:=List.mem_flatten.1 hm
  obtain ⟨y,hy,rfl⟩:=List.mem_map.1 hq;have h1:=h.one y hy;have h2:=(h1.2.2 s Ex).2.2;simp only[Int.toNat_natCast,hs,Option.getD_some] at h2;have hw:y.1.wt≤1000:=by
   refine Int.le_trans ?_ h.sum;have key:∀(G:List EM),(∀x∈G,0≤x.1.wt)→y∈G→y.1.wt≤(G.map fun x=>x.1.wt).sum:=by
    intro G
    induction G with
    |nil=>intro _ h;simp at h
    |cons g G ih=>
     intro hg hy;have ND:0≤(G.map fun x=>x.1.wt).sum:=by
      have:∀(G:List EM),(∀x∈G,0≤x.1.wt)→0≤(G.map fun x=>x.1.wt).sum:=by
       intro G
       induction G with
       |nil=>intro _;simp
       |cons g G ih=>intro hg;have:=ih (fun x hx=>hg x (by simp[hx]));have:=hg g (by simp);simp only[List.map_cons,List.sum_cons];omega
      exact this G (fun x hx=>hg x (by simp[hx]))
     simp only[List.map_cons,List.sum_cons];rcases List.mem_cons.1 hy with rfl|hy
     ·omega
     ·have:=ih (fun x hx=>hg x (by simp[hx])) hy
      have:=hg g (by simp);omega
   exact key G (fun x hx=>by have:=(h.one x hx).1;have:=(mG x.2.1).2;omega) hy
  by_cases hd:y.2.1≤15
  ·omega
  ·have:=N8 (show 17≤y.2.1+1 by omega)
   have e:mY 17=1597:=(by decide);omega
 ·have:=h.rest s hm
  rw[hs] at this;simp only[Option.getD_some] at this;omega
theorem Da {α β:Type} {f:α→β} {G:List α} {x:β} {m:List β} (p:(G.map f).Perm (x::m)):∃g R,G.Perm (g::R)∧f g=x∧(R.map f).Perm m:=by
 have hx:x∈G.map f:=p.symm.subset (by simp);obtain ⟨g,hg,rfl⟩:=List.mem_map.1 hx;obtain ⟨s,t,rfl⟩:=List.append_of_mem hg;refine ⟨g,s++t,List.perm_middle,rfl,?_⟩;have h1:((s++g::t).map f).Perm (f g::(s++t).map f):=by
  have:=(List.perm_middle (a:=g) (l₁:=s) (l₂:=t)).map f
  rwa [List.map_cons] at this
 exact (List.perm_cons (f g)).1 (h1.symm.trans p)
theorem Aw {l:List dX} {i:Nat} (h:i<l.length):l.Perm (qR l i::l.eraseIdx i):=by
 have e:qR l i=l[i]:=by unfold qR;rw[List.getElem?_eq_getElem h];rfl
 rw[e,List.eraseIdx_eq_take_drop_succ];have h1:l=l.take i++l[i]::l.drop (i+1):=by rw[← List.drop_eq_getElem_cons h,List.take_append_drop]
 conv=>lhs;rw[h1]
 exact List.perm_middle
def nP (N:Nat) (l:List dX) (out:List Int):Prop:=(l.length≤1∧out.length=N∧∀x∈out,0≤x∧x≤15)∨∃G:List EM,Co N out G∧(G.map Prod.fst).Perm l
theorem nP.small {N:Nat} {l:List dX} {out:List Int} (h:nP N l out):out.length=N∧∀x∈out,0≤x∧x≤15:=by
 rcases h with ⟨_,h⟩|⟨G,h,_⟩
 ·exact h
 ·exact ⟨h.len,fun x hx=>⟨h.low x hx,h.small x hx⟩⟩
theorem nP.step {N:Nat} {l:List dX} {out:List Int} (h:nP N l out) (h2:2≤l.length):nP N (Aq l) (C8 l out):=by
 rcases h with ⟨h1,_⟩|⟨G,hG,p⟩
 ·omega
 have l1:=lW (l:=l) (by omega);have p1:=Aw l1.1;have e1:(l.eraseIdx (cY l)).length=l.length-1:=List.length_eraseIdx_of_lt l1.1;have l2:=lW (l:=l.eraseIdx (cY l)) (by omega);have p2:=Aw l2.1;obtain ⟨⟨a,da,ma⟩,R1,q1,ea,r1⟩:=Da (p.trans p1);obtain ⟨⟨b,db,mb⟩,R,q2,eb,r2⟩:=Da (r1.trans p2);simp only at ea eb;have hg:Co N out ((a,da,ma)::(b,db,mb)::R):=hG.perm (q1.trans (q2.cons _));have hall:∀x∈R,(x.1:dX)∈l.eraseIdx (cY l):=fun x hx=>p2.symm.subset (List.mem_cons_of_mem _ (r2.subset (List.mem_map.2 ⟨x,hx,rfl⟩)));have hbm:b∈l.eraseIdx (cY l):=p2.symm.subset (by rw[← eb];simp);have hj:=hg.join (fun x hx=>by rw[ea];exact l1.2 _ (List.mem_of_mem_eraseIdx (hall x hx))) (by rw[ea];exact l1.2 _ (List.mem_of_mem_eraseIdx hbm)) (fun x hx=>by rw[eb];exact l2.2 _ (hall x hx));refine .inr ⟨(sU a b,max da db+1,b.wt)::R,?_,?_⟩
 ·unfold C8
  rw[← ea,← eb];exact hj
 ·rw[List.map_cons]
  unfold Aq;rw[← ea,← eb];exact (r2.cons _).trans (by
   have:=List.perm_append_singleton (sU a b) ((l.eraseIdx (cY l)).eraseIdx (cY (l.eraseIdx (cY l))));exact this.symm)
theorem nP.two {N:Nat} {l:List dX} {out:List Int} (h:nP N l out) (h2:2≤l.length):∀x∈l,1≤x.wt∧x.wt≤1000∧0≤x.num∧x.num<N∧x.ins.length≤N∧∀s∈x.ins,0≤s∧s<N:=by
 rcases h with ⟨h1,_⟩|⟨G,hG,p⟩
 ·omega
 intro x hx;obtain ⟨g,hg,rfl⟩:=List.mem_map.1 (p.symm.subset hx);have h1:=hG.one g hg;have hn:=hG.Hb g hg;have hw:=(mG g.2.1).2;refine ⟨by omega,?_,hn.1,hn.2,?_,fun s hs=>⟨(h1.2.2 s hs).1,(h1.2.2 s hs).2.1⟩⟩
 ·refine Int.le_trans ?_ hG.sum
  obtain ⟨s,t,rfl⟩:=List.append_of_mem hg;have key:∀(G:List EM),(∀x∈G,0≤x.1.wt)→0≤(G.map fun x=>x.1.wt).sum:=by
   intro G
   induction G with
   |nil=>intro _;simp
   |cons g G ih=>intro hg;have:=ih (fun x hx=>hg x (by simp[hx]));have:=hg g (by simp);simp only[List.map_cons,List.sum_cons];omega
  have tQ:∀x∈s++g::t,0≤x.1.wt:=fun x hx=>by have:=(hG.one x hx).1;have:=(mG x.2.1).2;omega
  have k1:=key s (fun x hx=>tQ x (by simp[hx]));have k2:=key t (fun x hx=>tQ x (by simp[hx]));simp only[List.map_append,List.map_cons,List.sum_append,List.sum_cons];omega
 ·refine Nat.le_trans ?_ hG.tot
  obtain ⟨s,t,rfl⟩:=List.append_of_mem hg;simp only[List.map_append,List.map_cons,List.flatten_append,List.flatten_cons,List.length_append];omega
theorem jJ (f:List Int):∀n,∀x∈cm f n,∃i:Nat,i<n∧x=⟨(f[i]?).getD 0,(i:Nat),[(i:Nat)]⟩∧0<(f[i]?).getD 0
 |0,x,hx=>by simp[cm] at hx
 |n+1,x,hx=>by
  rw[cm,List.mem_append] at hx;rcases hx with hx|hx
  ·obtain ⟨i,hi,h⟩:=jJ f n x hx;exact ⟨i,by omega,h⟩
  ·unfold sV at hx
   split at hx
   ·rename_i hp
    simp only[List.mem_singleton] at hx;exact ⟨n,by omega,hx,hp⟩
   ·simp at hx
theorem xU (f:List Int):∀n,((cm f n).map dX.ins).flatten.Nodup∧((cm f n).map dX.ins).flatten.length≤n∧∀s∈((cm f n).map dX.ins).flatten,0≤s∧s<n
 |0=>by simp[cm]
 |n+1=>by
  obtain ⟨h1,h2,h3⟩:=xU f n;rw[cm,List.map_append,List.flatten_append];have e:((sV f n).map dX.ins).flatten=[]∨((sV f n).map dX.ins).flatten=[(n:Int)]:=by
   unfold sV;split
   ·right;simp
   ·left;rfl
  rcases e with e|e <;> rw[e]
  ·rw[List.append_nil];exact ⟨h1,by omega,fun s hs=>by have:=h3 s hs;omega⟩
  ·refine ⟨List.nodup_append.2 ⟨h1,by simp,fun a ha b hb=>?_⟩,by rw[List.length_append,List.length_singleton];omega,fun s hs=>?_⟩
   ·simp only[List.mem_singleton] at hb;subst hb
    have:=h3 a ha;omega
   ·rcases List.mem_append.1 hs with hs|hs
    ·have:=h3 s hs;omega
    ·simp only[List.mem_singleton] at hs;omega
theorem xV (f:List Int) (hf:∀x∈f,0≤x):∀n,n≤f.length→((cm f n).map dX.wt).sum=(f.take n).sum
 |0,_=>by simp[cm]
 |n+1,h=>by
  have ih:=xV f hf n (by omega);rw[cm,List.map_append,List.sum_append,ih,List.take_add_one,List.sum_append];congr 1;unfold sV;rw[List.getElem?_eq_getElem (by omega)];simp only[Option.getD_some,Option.toList]
  split
  ·simp
  ·have:=hf _ (List.getElem_mem (show n<f.length by omega))
   simp;omega
theorem Db {f:List Int} (hf:∀x∈f,0≤x) (hs:f.sum≤1000):nP f.length (cm f f.length) (pd f (cm f f.length)):=by
 obtain ⟨h1,h2,h3⟩:=xU f f.length;unfold pd;by_cases e:(cm f f.length).length=1
 ·rw[if_pos e]
  refine .inl ⟨by omega,by simp,fun x hx=>?_⟩;rcases List.mem_or_eq_of_mem_set hx with hx|rfl
  ·have:=(List.mem_replicate.1 hx).2;omega
  ·omega
 ·rw[if_neg e]
  refine .inr ⟨(cm f f.length).map fun t=>(t,0,0),?_,by rw[List.map_map];exact List.Perm.of_eq (by simp[Function.comp_def])⟩;have em:∀ {β:Type} (g:dX→β),((cm f f.length).map fun t=>(t,0,0):List EM).map (fun x=>g x.1)=(cm f f.length).map g:=fun g=>by rw[List.map_map];rfl
  refine {len:=by simp,one:=?_,two:=?_,nodup:=by rw[em dX.ins];exact h1,sum:=by rw[em dX.wt,xV f hf _ aT,List.take_length];exact hs,rest:=?_,low:=?_,Hb:=?_,tot:=by rw[em dX.ins];exact h2}
  ·intro x hx
   obtain ⟨t,ht,rfl⟩:=List.mem_map.1 hx;obtain ⟨i,hi,rfl,hp⟩:=jJ f _ t ht;refine ⟨by show mY 1≤_;have:mY 1=1:=rfl;simp only;omega,by show mY 0≤0;decide,fun s hs=>?_⟩;simp only[List.mem_singleton] at hs;subst hs;refine ⟨by omega,by omega,?_⟩;simp[List.getElem?_replicate]
   split <;> simp
  ·rw[List.pairwise_map]
   refine List.Pairwise.imp_of_mem (R:=fun _ _=>True) (fun {a b} ha hb _=>?_) (List.pairwise_of_forall (fun _ _=>trivial));obtain ⟨i,_,rfl,h⟩:=jJ f _ a ha;obtain ⟨j,_,rfl,h'⟩:=jJ f _ b hb;exact ⟨by show (0:Int)≤(f[i]?).getD 0;omega,by show (0:Int)≤(f[j]?).getD 0;omega⟩
  ·intro s _
   rw[List.getElem?_replicate]
   split <;> simp
  ·intro x hx;have:=(List.mem_replicate.1 hx).2;omega
  ·intro x hx
   obtain ⟨t,ht,rfl⟩:=List.mem_map.1 hx;obtain ⟨i,hi,rfl,hp⟩:=jJ f _ t ht;exact ⟨by simp,by simp;omega⟩
theorem xW {N:Nat}:∀(n:Nat) {l:List dX} {out:List Int},nP N l out→(oB n l out).length=N∧∀x∈oB n l out,0≤x∧x≤15
 |0,l,out,h=>h.small
 |n+1,l,out,h=>by
  unfold oB
  split
  ·rename_i h2;exact xW n (h.step h2)
  ·exact h.small
theorem xX {f:List Int} (hf:∀x∈f,0≤x) (hs:f.sum≤1000):∀x∈iT f,0≤x∧x≤15:=(xW _ (Db hf hs)).2
end Go.Proofs.YtbigkioechkngaaGreat
namespace Go.Proofs.YtbigkioechkngaaGreat
open Go.RowKit
def AL (g:Nat) (W W':World):Prop:=∀b,b≠g→b<W.heap.size→W'.heap[b]?=W.heap[b]?
theorem AL.cell {g:Nat} {W W':World} (h:AL g W W') {a:Addr} {v:Value} (hv:W.cell? a=some v) (hg:a.block≠g):W'.cell? a=some v:=
 (World.cell?_of_block (h a.block hg (World.block_lt_of_cell? _ _ hv))).trans hv
theorem AL.refl (g:Nat) (W:World):AL g W W:=fun _ _ _=>rfl
theorem AL.step {g D:Nat} {W W1 W2 w2:World} {r:Value} {c:Nat} (h:AL g W W1) (hs:W.heap.size≤W1.heap.size) (hb:Bw W1 W2) (hD:W.heap.size≤D) (h2:Below D W2 w2):AL g W (w2.setCell ⟨g,c,none⟩ r):=fun b hg hlt=>by rw[Below.heap_setCell _ _ _ b (fun e=>by simp only at e;omega),h2.block b (by omega),hb.block b (by omega),h b hg hlt]
theorem EU {W:World} {B D g n j:Nat} {T:List (List aj)} {z:Int} (h:fM W B D g n T) (hc:W.cell? ⟨g,j,none⟩=some (.int .i64 z)):False:=by
 obtain ⟨rs,h1,h2,h3,h4,h5⟩:=h;obtain ⟨cur,hb,_,_,_,hs,ht⟩:=bp h3;have Zp:cur[j]?=some (.int .i64 z):=by
  unfold World.cell? at hc;rw[hb] at hc
  simpa using hc
 have hj:j<cur.size:=(Array.getElem?_eq_some_iff.1 Zp).1;have hrs:rs[j]?=some (.int .i64 z):=by rw[← ht,List.getElem?_take,if_pos (by omega),Array.getElem?_toList];exact Zp
 obtain ⟨t,htj⟩:=fy (l:=T) (k:=j) (by have:=(List.getElem?_eq_some_iff.1 hrs).1;omega);rcases aK (h4 j _ t hrs htj) with ⟨h,_⟩|⟨_,_,h⟩ <;> cases h
def aef (w w4:World) (n g N:Nat) (C:List az) (i:Value) (wr:World):Prop:=
 ∃(k:Nat) (T:List (List aj)),k≤N∧i=.int .i64 k∧fM wr g w4.heap.size g n T∧(∀t∈T,t.length≤k)∧gA n (List.replicate n []) C=gA n T (C.drop k)∧AL g w4 wr∧Bw w wr∧w4.heap.size≤wr.heap.size
theorem Hw (l:List dy) (c:Int) (v1:Value) (w:World) (h1:eU w v1 l) (l1:bO l):Calls Tryz.prog 51 #[v1,.int .i64 c] w (di w l c):=by
 have HV:=aa h1;have xJ:=aa l1;have uW:=aa (fun (W:World) (h:Bw w W)=>tD l v1 W (h1.keep (af h)) l1);obtain ⟨p,cp,rfl,a1,a2,ha⟩:=h1;obtain ⟨nl,rZ⟩:∃N,l.length=N:=⟨_,rfl⟩
 rw[rZ] at a1 HV uW;rw[rZ];clear ha a1 a2 l1 rZ;by_cases h1:c<1
 ·have HF:=aa (yb (l:=l) h1)
  go_enter Tryz.func51,Tryz.ntmps51;go_wp2_with fail;refine au (di.no HF aH) ?_;simp[results,Tryz.results51,go_sem]
 by_cases h2:(1000:Int)<c
 ·have HF:=aa (uY (l:=l) h2)
  go_enter Tryz.func51,Tryz.ntmps51;go_wp2_with fail;refine au (di.no HF aH) ?_;simp[results,Tryz.results51,go_sem]
 cases hm:dR l with
 |false=>have HF:=aa (ye (c:=c) hm);have HM:=aa hm;clear hm;go_enter Tryz.func51,Tryz.ntmps51;go_wp2_with fail;refine (uW _ aH).mono ?_;rintro e w1 ⟨rfl,hb⟩;rw[HM.o];have HB:=aa hb;clear hb;go_wp2_with fail;refine au (di.no HF HB) ?_;simp[results,Tryz.results51,go_sem]
 |true=>
 obtain ⟨n,rfl⟩:∃n:Nat,c=n:=⟨c.toNat,by omega⟩
 have HN:=aa (show 1≤n∧n≤1000 by omega);have HF:=aa (AH HN.1 HN.2 hm);have HM:=aa hm;have Ca:=aa (wB hm);have HVS:=aa (oZ xJ (dw.1 hm).2.2);clear hm;go_enter Tryz.func51,Tryz.ntmps51;go_wp2_with fail;refine (uW _ aH).mono ?_;rintro e w2 ⟨rfl,hb⟩;rw[HM.o];have bU:=aa hb;clear hb;obtain ⟨w3,jP,mm,hb3⟩:=Al w2 n HN.2;obtain ⟨g,hg⟩:=aG w2.heap.size;rw[hg] at jP mm hb3;have qD:=aa mm;have dG:=aa (show Bw w w3 from bU.trans (hb3.mono (by rw[← hg];exact bU.size)));have HG:=aa (show g<w3.heap.size from ((mm 0).choose_spec.2.2.1.lt g rfl).2);have HWG:=aa (show w.heap.size≤g by rw[← hg];exact bU.size);clear mm hb3 hg h1 h2;obtain ⟨C,hC⟩:=aG (aY l);have tG:=aa (show C.length≤600000 by rw[← hC];exact tM (fun _=>HVS));rw[hC] at HF Ca;have HC:=aa hC;clear hC;go_wp2_with (go_at_call 35;(with_reducible refine (GJ l _ _ (HV.o.keep (af dG.o)) xJ.o).mono ?_);rintro e w4 ⟨v4,rfl,Zx,hb4⟩;rw[HC.o] at Zx;have HP:=aa Zx;obtain ⟨pq,cq,rfl,b1,b2,Rk⟩:=Zx;obtain ⟨N,hN⟩:=aG C.length;rw[hN] at b1 HP tG;rw[hN];have HNC:=aa hN;have HPA:=aa Rk;have gz:=aa hb4;have hlc:(N:Int)≤9223372036854775807:=(by unfold maxLen at b2;omega);clear hN Rk hb4 b1 b2);have pP:=aa (show fM w4 g w4.heap.size g n (List.replicate n []) from (qD _).below gz);have bA:=aa (ak dG gz);have QL:=aa (show g<w4.heap.size from Nat.lt_of_lt_of_le HG gz.size);have HNI:=aa (fun (j:Nat) (z:Int)=>EU (j:=j) (z:=z) pP);clear jP HV uW;go_loopw [8] (fun i wr=>aef w w4 n g N C i wr) (fun i _=>N-(intOf i).toNat)
 case atStart=>exact ⟨0,_,dQ,rfl,pP,fun t ht=>by rw[List.mem_replicate] at ht;rw[ht.2];exact dQ,by rw[List.drop_zero],AL.refl _ _,bA,aT⟩
 case round=>
  obtain ⟨k,T,hk,rfl,MR,hlt,htg,Sr,hb,hsz⟩:=hrel;have JS:=aa MR;have VM:=aa hlt;have Zy:=aa htg;have Hu:=aa Sr;have zL:=aa hb;have mW:=aa hsz;clear MR hlt htg Sr hb hsz pP;by_cases hlt:k<N
  case neg=>
   obtain rfl:k=N:=by omega
   have Rv:decide ((k:Int)<(k:Int))=false:=(by simp);have FJ:=aa (show cg l n=if T.all dD=true then some T else none by
    rw[HF.o,Zy.o,List.drop_of_length_le (by rw[HNC.o];exact aT)];rfl)
   have UE:(n:Int)≤9223372036854775807:=by have:=HN.o;omega
   go_wp2_with fail;go_loopw [11] (fun i wr=>Ym w w4.heap.size n g T i wr) (fun i _=>n-(intOf i).toNat)
   case atStart=>exact ⟨0,dQ,rfl,JS,fun j t hj=>by omega,zL⟩
   case round=>
    obtain ⟨j,hj,rfl,MR,hall,hb⟩:=hrel;have NN:=aa MR;have pW:=aa hall;have UA:=aa hb;clear MR hall hb;by_cases jh:j<n
    case neg=>
     obtain rfl:j=n:=by omega
     have adD:decide ((j:Int)<(j:Int))=false:=(by simp);have HQ:=aa (show cg l j=some T by
      rw[FJ.o,if_pos];rw[List.all_eq_true];intro t ht;obtain ⟨i,hi⟩:=List.getElem?_of_mem ht;exact pW i t (by have:=(List.getElem?_eq_some_iff.1 hi).1;rw[NN.o.len] at this;exact this) hi)
     go_wp2_with fail;refine au (di.yes HQ (NN.at HN.2) UA) ?_;simp[results,Tryz.results51,go_sem]
    case pos=>
     have FI:(j:Int)<(n:Int):=(by omega);have ZA:=uM hj (show n≤1000000 by have:=HN.o;omega);obtain ⟨t,ht⟩:=fy (l:=T) (k:=j) (by rw[NN.o.len];exact jh);obtain ⟨r,hr,Vi⟩:=NN.one ht;have HU:=aa (fw Vi);have HT:=aa ht;clear Vi ht;cases wL:dD t with
     |false=>
      have yg:=aa wL;clear wL;have HQ:=aa (show cg l n=none by
       rw[FJ.o,if_neg];rw[List.all_eq_true];intro h;have:=h t (List.mem_of_getElem? HT);rw[yg.o] at this;exact absurd this (by simp))
      go_wp2_with (go_at_call 102;(with_reducible refine (mD t _ _ HU.o).mono ?_);rintro e w6 ⟨rfl,cW⟩;rw[yg.o];have cQ:=aa cW;clear cW);refine au (di.no HQ (ak UA cQ)) ?_;simp[results,Tryz.results51,go_sem]
     |true=>
      have yg:=aa wL;clear wL;go_wp2_with (go_at_call 102;(with_reducible refine (mD t _ _ HU.o).mono ?_);rintro e w6 ⟨rfl,cW⟩;rw[yg.o];have cQ:=aa cW;clear cW);go_roundw
      case rel=>exact ⟨j+1,by omega,by go_num,NN.o.below cQ.o,fun i x hi hx=>by
       by_cases e:i=j
       ·subst e;rw[HT.o] at hx;cases hx;exact yg.o
       ·exact pW.o i x (by omega) hx,ak UA.o cQ.o⟩
      case measure=>first|exact dU jh|(have hm:=dU jh;rw[← ZA] at hm;exact hm)
  case pos=>
   have fO:(k:Int)<(N:Int):=(by omega);have QN:=uM hk (show N≤1000000 by have:=tG.o;omega);obtain ⟨⟨q1,q2⟩,ht⟩:∃t,C[k]?=some t:=⟨_,List.getElem?_eq_getElem (by rw[HNC.o];exact hlt)⟩
   have o1:=(Ca.o _ (List.mem_of_getElem? ht)).1;simp only at o1;have FO:=aa (MQ o1);obtain ⟨gp,op,rfl,y0,y1⟩:=HPA.o k _ ht;simp only at y0 y1;have QI:gp≠g:=fun e=>by subst e;exact HNI _ _ y0
   have HGP:=aa (show gp<w4.heap.size∧True from ⟨by have:=World.block_lt_of_cell? _ _ y0;simpa using this,trivial⟩);replace y0:=Hu.cell y0 QI;replace y1:=Hu.cell y1 QI;obtain ⟨⟨ch,po,sz,pk⟩,hr⟩:∃r,bM q1=r:=⟨_,rfl⟩
   rw[hr] at FO;obtain ⟨cn,rfl⟩:∃cn:Nat,ch=cn:=⟨ch.toNat,by have:=FO.o;simp only at this;omega⟩
   have AJ:=aa (show Kb q1=⟨cn,po,sz,pk⟩ by unfold Kb;rw[if_pos o1];exact hr);have sJ:=aa ht;have JN:=aa o1;have Hv:=aa hr;have Kc:=aa y1;have HGN:=aa QI;clear ht o1 hr QI;go_upto_region 9 with (go_at_call 36;(with_reducible refine (zK q1 FO.o.1 FO.o.2.1 _).mono ?_);rintro e w5 ⟨rfl,aR⟩;rw[AJ.o,JN.o];simp only[aA.agg];have Ss:=aa aR;clear aR);obtain ⟨W6,oQ⟩:=aG (w5.alloc (.cells #[.int .i64 cn,.int .i64 po,.int .i64 sz,.bool pk] 50));have cW:Bw w5 W6:=by rw[← oQ];exact aq
   have cQ:=aa (ak Ss cW);have rU:=aa (show kY w5.heap.size cn po sz pk W6 by rw[← oQ];exact ⟨by simp,by simp,by simp,by simp⟩);have kB:=aa (ae cQ Kc);rw[oQ];clear oQ cW y0 y1;have r0:=rU.1;by_cases Rf:cn<n
   case neg=>
    have Su:(n:Int)≤(cn:Int):=(by omega);have HQ:=aa (show cg l n=none by
     rw[HF.o,Zy.o,o7 sJ.o,if_neg];unfold mE;rw[Hv.o];simp only[Bool.and_eq_true,decide_eq_true_eq];omega)
    go_wp2_with fail;refine au (di.no HQ (ak zL cQ)) ?_;simp[results,Tryz.results51,go_sem]
   case pos=>
   have Su:(cn:Int)<(n:Int):=(by omega);go_upto_region 11 with fail;clear r0;obtain ⟨L,hL⟩:=aG (bQ sz);have rP:=aa hL;have fL:=aa (show (-1000000:Int)≤sz∧sz≤1000000 by have:=FO.o;simp only at this;omega);clear hL;obtain ⟨t,ht⟩:=fy (l:=T) (k:=cn) (by rw[JS.o.len];exact Rf);obtain ⟨r,G3,_⟩:=JS.one ht;have c1:W6.drew.cell? ⟨g,cn,none⟩=some r:=ae (ak cQ aH.drew) G3;have HTT:=aa ht;have uy:=aa (show t.length≤1000000 by have:=VM.o t (List.mem_of_getElem? ht);have:=tG.o;omega);have Sv:=aa (Dj (c:=cn) (u:=(po,L,q2,true)) VM (List.mem_of_getElem? ht));have Sw:=aa (show gA n (List.replicate n []) C=gA n (T.set cn (t++[(po,L,q2,true)])) (C.drop (k+1)) by
    rw[Zy.o,o7 sJ.o,if_pos (by unfold mE;rw[Hv.o,JN.o];simp only[Bool.true_and,decide_eq_true_eq];exact Su)];unfold sR fX qQ;simp only[Hv.o,rP.o,Int.toNat_natCast,ht,Option.getD_some])
   have kR:=aa (iC (show Bw W6 W6.drew from aH.drew) ⟨rU.1,rU.2.1,rU.2.2.1,rU.2.2.2,kB⟩);have JT:=aa (show wr.heap.size≤w5.heap.size from Ss.size);have QP:=aa (show w5.heap.size≠g∧gp≠g from ⟨fun e=>by have h1:=JT.o;have h2:=mW.o;have h3:=QL.o;omega,HGN⟩);clear ht G3;refine wp_region_held_drew (S:=fun w'=>w'.cell? ⟨w5.heap.size,0,none⟩=some (.int .i64 cn)∧w'.cell? ⟨w5.heap.size,1,none⟩=some (.int .i64 po)∧w'.cell? ⟨w5.heap.size,2,none⟩=some (.int .i64 sz)∧w'.cell? ⟨w5.heap.size,3,none⟩=some (.bool pk)∧w'.cell? ⟨gp,op+k*2+1,none⟩=some (.int .i64 q2)) (by kernel_rfl) kR (fun hHeld=>?_);refine cD 0 46 (.slice (some ⟨g,0,none⟩) n n) rfl rfl hHeld ?_;simp only[aF];refine cD 1 47 (.pointer (some ⟨w5.heap.size,0,none⟩)) rfl rfl hHeld ?_;simp only[aF];refine cD 2 48 (.int .i64 cn) rfl rfl hHeld ?_;simp only[aF];refine cD 3 49 (.slice (some ⟨g,0,none⟩) n n) rfl rfl hHeld ?_;simp only[aF];refine cD 4 50 (.pointer (some ⟨w5.heap.size,0,none⟩)) rfl rfl hHeld ?_;simp only[aF];refine cD 5 51 (.int .i64 cn) rfl rfl hHeld ?_;simp only[aF];refine cD 6 52 (.pointer (some ⟨g,cn,none⟩)) rfl rfl hHeld ?_;simp only[aF];refine cD 8 54 (.pointer (some ⟨w5.heap.size,1,none⟩)) rfl rfl hHeld ?_;simp only[aF];refine cD 9 55 (.int .i64 po) rfl rfl hHeld ?_;simp only[aF];refine cD 10 56 (.agg #[.int .i64 cn,.int .i64 po,.int .i64 sz,.bool pk]) rfl rfl hHeld ?_;simp only[aF];refine cD 12 58 (.slice (some ⟨gp,op,none⟩) N cq) rfl rfl hHeld ?_;simp only[aF];refine cD 13 59 (.int .i64 k) rfl rfl hHeld ?_;simp only[aF];refine cD 14 60 (.pointer (some ⟨gp,op+k*2,none⟩)) rfl rfl hHeld ?_;simp only[aF];refine cD 15 61 (.pointer (some ⟨gp,op+k*2+1,none⟩)) rfl rfl hHeld ?_;simp only[aF];refine cD 16 62 (.int .i64 q2) rfl rfl hHeld ?_;simp only[aF];refine wpAnyH_ready (rs:=[7,11]) (by kernel_rfl) (by simp) ?_;refine AllReadyH.cons rfl (fun K hK=>?_) (AllReadyH.cons rfl (fun K hK=>?_) AllReadyH.nil)
   ·go_simp
    refine hK.out _ _ kR.o (fun hHeld=>?_);clear hK K;refine kn 11 rfl (fun K hK=>?_);go_simp;refine (tC cn po sz L pk fL.o.1 fL.o.2 rP.o W6.drew).mono ?_;rintro e w7 ⟨rfl,dO⟩;have qU:=aa (iC dO kR.o);obtain ⟨r2,c7,g9,c9,w9,hrun,wM,Gx,AK,kp,gU⟩:=wA wr w7 g w4.heap.size g n cn T t (po,L,q2,true) (ak (ak cQ.o aH.drew) dO) JS.o HTT.o uy.o mW.o;obtain rfl:r2=r:=Option.some.inj (c7.symm.trans (ae dO c1));obtain ⟨tl,Wh⟩:∃n,t.length+1=n:=⟨_,rfl⟩
    rw[Wh] at hrun AK;have zN:=aa (And.intro (gU _ _ JT.o qU.o.1) (And.intro (gU _ _ JT.o qU.o.2.1) (And.intro (gU _ _ JT.o qU.o.2.2.1) (And.intro (gU _ _ JT.o qU.o.2.2.2.1) ((kp.cell HGP.o.1).trans qU.o.2.2.2.2)))));have c8:(w7.alloc (.cells #[.int .i64 po,.int .i64 L,.int .i64 q2,.bool true] 52)).cell? ⟨g,cn,none⟩=some r2:=ae (aq) c7;have dM:=aa hrun;have Oo:=aa AK;have Y7:=aa (And.intro wM Gx);have Dk:=aa (show AL g w4 (w9.setCell ⟨g,cn,none⟩ (.slice (some ⟨g9,0,none⟩) tl c9)) from Hu.o.step mW.o (show Bw wr w7 from ak (ak cQ.o aH.drew) dO) aT kp);have km:=aa (show Bw w (w9.setCell ⟨g,cn,none⟩ (.slice (some ⟨g9,0,none⟩) tl c9)) from ((zL.o.trans ((ak (ak cQ.o aH.drew) dO).mono zL.o.size)).trans (kp.mono bA.o.size)).grown (aw w9 g cn _) (Nat.le_trans zL.o.size (Nat.le_trans (ak (ak cQ.o aH.drew) dO).size kp.size)) (fun k e=>by cases e;exact HWG.o));have Oq:=aa (show w4.heap.size≤(w9.setCell ⟨g,cn,none⟩ (.slice (some ⟨g9,0,none⟩) tl c9)).heap.size from Nat.le_trans mW.o (Nat.le_trans (ak (ak cQ.o aH.drew) dO).size (Nat.le_trans kp.size (aw w9 g cn _).size)));clear hrun AK kp gU wM Gx dO hHeld;go_simp;refine hK.out _ _ qU.o (fun hHeld=>?_);clear hK K;refine cD 17 63 (.agg #[.int .i64 po,.int .i64 L,.int .i64 q2,.bool true]) rfl rfl hHeld ?_;simp only[aF];refine kn 18 rfl (fun K hK=>?_);go_simp;refine hK.out _ _ (mH _ qU.o) (fun hHeld=>?_);clear hK K;refine kn 19 rfl (fun K hK=>?_);refine bE rfl _ _ _ rfl rfl rfl dM.o ?_;refine hK.out _ _ zN.o (fun hHeld=>?_);clear hK K;refine cD 20 66 (.pointer (some ⟨g,cn,none⟩)) rfl rfl hHeld ?_;simp only[Act.put,List.setIfInBounds_toArray];obtain ⟨wM,Gx⟩:=Y7.o;refine kn 21 rfl (fun K hK=>?_);go_simp;refine hK.out _ _ (wK QP.o.1 QP.o.2 zN.o) (fun hHeld=>?_);clear hK K wM Gx hHeld;refine wpAnyH_done (by kernel_rfl) ?_ _;clear c1 c7 c8;go_wp2_with fail;go_roundw
    case rel=>exact ⟨k+1,T.set cn (t++[(po,L,q2,true)]),by omega,by go_num,Oo.o,Sv.o,Sw.o,Dk.o,km.o,Oq.o⟩
    case measure=>first|exact dU hlt|(have hm:=dU hlt;rw[← QN] at hm;exact hm)
   ·go_simp
    refine (tC cn po sz L pk fL.o.1 fL.o.2 rP.o W6.drew).mono ?_;rintro e w7 ⟨rfl,dO⟩;have qU:=aa (iC dO kR.o);obtain ⟨r2,c7,g9,c9,w9,hrun,wM,Gx,AK,kp,gU⟩:=wA wr w7 g w4.heap.size g n cn T t (po,L,q2,true) (ak (ak cQ.o aH.drew) dO) JS.o HTT.o uy.o mW.o;obtain rfl:r2=r:=Option.some.inj (c7.symm.trans (ae dO c1));obtain ⟨tl,Wh⟩:∃n,t.length+1=n:=⟨_,rfl⟩
    rw[Wh] at hrun AK;have zN:=aa (And.intro (gU _ _ JT.o qU.o.1) (And.intro (gU _ _ JT.o qU.o.2.1) (And.intro (gU _ _ JT.o qU.o.2.2.1) (And.intro (gU _ _ JT.o qU.o.2.2.2.1) ((kp.cell HGP.o.1).trans qU.o.2.2.2.2)))));have c8:(w7.alloc (.cells #[.int .i64 po,.int .i64 L,.int .i64 q2,.bool true] 52)).cell? ⟨g,cn,none⟩=some r2:=ae (aq) c7;have dM:=aa hrun;have Oo:=aa AK;have Y7:=aa (And.intro wM Gx);have Dk:=aa (show AL g w4 (w9.setCell ⟨g,cn,none⟩ (.slice (some ⟨g9,0,none⟩) tl c9)) from Hu.o.step mW.o (show Bw wr w7 from ak (ak cQ.o aH.drew) dO) aT kp);have km:=aa (show Bw w (w9.setCell ⟨g,cn,none⟩ (.slice (some ⟨g9,0,none⟩) tl c9)) from ((zL.o.trans ((ak (ak cQ.o aH.drew) dO).mono zL.o.size)).trans (kp.mono bA.o.size)).grown (aw w9 g cn _) (Nat.le_trans zL.o.size (Nat.le_trans (ak (ak cQ.o aH.drew) dO).size kp.size)) (fun k e=>by cases e;exact HWG.o));have Oq:=aa (show w4.heap.size≤(w9.setCell ⟨g,cn,none⟩ (.slice (some ⟨g9,0,none⟩) tl c9)).heap.size from Nat.le_trans mW.o (Nat.le_trans (ak (ak cQ.o aH.drew) dO).size (Nat.le_trans kp.size (aw w9 g cn _).size)));clear hrun AK kp gU wM Gx dO hHeld;go_simp;refine hK.out _ _ qU.o (fun hHeld=>?_);clear hK K;refine cD 17 63 (.agg #[.int .i64 po,.int .i64 L,.int .i64 q2,.bool true]) rfl rfl hHeld ?_;simp only[aF];refine wpAnyH_ready (rs:=[7,18]) (by kernel_rfl) (by simp) ?_;refine AllReadyH.cons rfl (fun K hK=>?_) (AllReadyH.cons rfl (fun K hK=>?_) AllReadyH.nil)
    ·go_simp
     refine hK.out _ _ qU.o (fun hHeld=>?_);clear hK K;refine kn 18 rfl (fun K hK=>?_);go_simp;refine hK.out _ _ (mH _ qU.o) (fun hHeld=>?_);clear hK K;refine kn 19 rfl (fun K hK=>?_);refine bE rfl _ _ _ rfl rfl rfl dM.o ?_;refine hK.out _ _ zN.o (fun hHeld=>?_);clear hK K;refine cD 20 66 (.pointer (some ⟨g,cn,none⟩)) rfl rfl hHeld ?_;simp only[Act.put,List.setIfInBounds_toArray];obtain ⟨wM,Gx⟩:=Y7.o;refine kn 21 rfl (fun K hK=>?_);go_simp;refine hK.out _ _ (wK QP.o.1 QP.o.2 zN.o) (fun hHeld=>?_);clear hK K wM Gx hHeld;refine wpAnyH_done (by kernel_rfl) ?_ _;clear c1 c7 c8;go_wp2_with fail;go_roundw
     case rel=>exact ⟨k+1,T.set cn (t++[(po,L,q2,true)]),by omega,by go_num,Oo.o,Sv.o,Sw.o,Dk.o,km.o,Oq.o⟩
     case measure=>first|exact dU hlt|(have hm:=dU hlt;rw[← QN] at hm;exact hm)
    ·go_simp
     refine hK.out _ _ (mH _ qU.o) (fun hHeld=>?_);clear hK K;refine kn 7 rfl (fun K hK=>?_);go_simp;refine hK.out _ _ hHeld (fun hHeld=>?_);clear hK K;refine kn 19 rfl (fun K hK=>?_);refine bE rfl _ _ _ rfl rfl rfl dM.o ?_;refine hK.out _ _ zN.o (fun hHeld=>?_);clear hK K;refine cD 20 66 (.pointer (some ⟨g,cn,none⟩)) rfl rfl hHeld ?_;simp only[Act.put,List.setIfInBounds_toArray];obtain ⟨wM,Gx⟩:=Y7.o;refine kn 21 rfl (fun K hK=>?_);go_simp;refine hK.out _ _ (wK QP.o.1 QP.o.2 zN.o) (fun hHeld=>?_);clear hK K wM Gx hHeld;refine wpAnyH_done (by kernel_rfl) ?_ _;clear c1 c7 c8;go_wp2_with fail;go_roundw
     case rel=>exact ⟨k+1,T.set cn (t++[(po,L,q2,true)]),by omega,by go_num,Oo.o,Sv.o,Sw.o,Dk.o,km.o,Oq.o⟩
     case measure=>first|exact dU hlt|(have hm:=dU hlt;rw[← QN] at hm;exact hm)
structure SL {α:Type} (l:List α) (L:List (List α)):Prop where
 cat:L.flatten=l
 many:1≤L.length∧L.length≤l.length∧(2≤l.length→2*L.length≤l.length)
 some:∀p∈L,1≤p.length∧p.length≤4∧(2≤l.length→2≤p.length)
theorem Ox {l:List az} {L:List (List az)} (h1:1≤l.length) (h2:l.length≤1000000) (hc:SL l L):CW (L.map iQ) l 1:=by
 obtain ⟨b1,b2,b4⟩:=hc.many;have hl:(L.map iQ).length=L.length:=List.length_map _;refine ⟨by omega,by omega,?_,fun t ht=>?_,fun t ht k hk hk2=>?_,fun t ht=>?_,fun hr t ht=>?_,aT⟩
 ·rw[bZ,List.map_map,show (aB∘iQ)=id by funext p;exact zY p,List.map_id];exact hc.cat
 all_goals
  rw[List.mem_map] at ht;obtain ⟨p,hp,rfl⟩:=ht;obtain ⟨c1,c2,c3⟩:=hc.some p hp
 ·simpa [iQ,ag.keys] using c1
 ·unfold iQ;simp only[cH,lu];rw[if_neg (by omega)];rfl
 ·unfold iQ;simp only[bG,List.length_map,List.length_nil,if_true];simp;omega
 ·unfold iQ;simp only[bG,List.length_map,List.length_nil,if_true]
  have:2≤l.length:=by rw[hl] at hr;omega
  have:=c3 this;simp;omega
theorem Dn {row:List ag} {L:List (List ag)} {l:List az} {d:Nat} (h:CW row l d) (h2:2≤row.length) (hc:SL row L):CW (L.map jG) l (d+1):=by
 obtain ⟨b1,b2,b4⟩:=hc.many;have hl:(L.map jG).length=L.length:=List.length_map _;have hd:d≤21:=by have h3:=h.less;have h4:=Nat.le_trans (Nat.mul_le_mul h.some (Nat.le_refl (2 ^ d))) h3;rw[Nat.one_mul] at h4;exact (Nat.pow_le_pow_iff_right (by omega)).1 h4
 have tL:∀p∈L,∀t∈p,t∈row:=fun p hp t ht=>by rw[← hc.cat,List.mem_flatten];exact ⟨p,hp,ht⟩
 refine ⟨by omega,?_,?_,fun t ht=>?_,fun t ht k hk hk2=>?_,fun t ht=>?_,fun hr t ht=>?_,by omega⟩
 ·rw[hl,Nat.pow_succ]
  have:=h.less;have h5:2*L.length*2 ^ d≤row.length*2 ^ d:=Nat.mul_le_mul (b4 h2) aT;rw[show L.length*(2 ^ d*2)=2*L.length*2 ^ d by rw[Nat.mul_comm (2 ^ d) 2,← Nat.mul_assoc,Nat.mul_comm L.length 2]];omega
 ·rw[bZ,List.map_map]
  have e:L.map (aB∘jG)=L.map bR:=List.map_congr_left fun p hp=>Ks (hc.some p hp).1;rw[e];have e2:∀q:List (List ag),(q.map bR).flatten=bR q.flatten:=fun q=>by
   induction q with
   |nil=>simp[bR]
   |cons a q ih=>rw[List.map_cons,List.flatten_cons,List.flatten_cons,ih,bZ a,bZ q.flatten,bZ,List.map_append,List.flatten_append]
  rw[e2,hc.cat];exact h.cat
 all_goals
  rw[List.mem_map] at ht;obtain ⟨p,hp,rfl⟩:=ht;obtain ⟨c1,c2,c3⟩:=hc.some p hp;have c4:=c3 h2;have hm:=tL p hp
 ·simpa [jG,ag.keys] using c1
 ·have hdp:∀t∈p,cH t (k-1)=d:=fun t ht=>h.deep t (hm t ht) (k-1) (by omega) (by omega)
  unfold jG;cases p with
  |nil=>simp at c1
  |cons a p=>have ha:=hdp a (by simp);simp only[cH,lu];rw[if_neg (by omega),ha,nY,if_pos (List.all_eq_true.2 fun u hu=>decide_eq_true (hdp u (by simp[hu]))),if_neg (by have:=h.one;omega)];push_cast;rfl
 all_goals
  have hs:bG (jG p) 2=true:=by
   unfold jG;simp only[bG,List.length_map,List.length_nil,Bool.and_eq_true,decide_eq_true_eq];refine ⟨by omega,?_⟩;rw[if_neg (by omega),Bool.and_eq_true,decide_eq_true_eq];refine ⟨(by simp;omega),(eV _ _).2 fun j t hj=>⟨h.two h2 t (hm t (List.mem_of_getElem? hj)),?_⟩⟩;rw[List.getElem?_map,hj,Option.map_some];have:=h.keys t (hm t (List.mem_of_getElem? hj));unfold sP;cases hk:t.keys with
   |nil=>rw[hk] at this;simp at this
   |cons x xs=>rfl
 ·unfold jG at hs ⊢
  simp only[bG,Bool.and_eq_true,decide_eq_true_eq] at hs ⊢;exact ⟨by omega,hs.2⟩
 ·exact hs
end Go.Proofs.YtbigkioechkngaaGreat
namespace Go.Proofs.YtbigkioechkngaaGreat
open Go.RowKit Go.Shelf
attribute [local go_sem] Oper.semAt_some
def nE (l:List fB):List (Nat×fB):=(l.zipIdx.map fun x=>(x.2,x.1)).reverse
theorem Pj {l:List fB} {j:Nat} {x:fB} (hx:l[l.length-1-j]?=some x) (hj:j<l.length):(nE l)[j]?=some (l.length-1-j,x):=by unfold nE;rw[List.getElem?_reverse (by rw[List.length_map,List.length_zipIdx];exact hj),List.length_map,List.length_zipIdx,List.getElem?_map,List.getElem?_zipIdx,hx];simp
theorem Pk (l:List fB):(nE l).length=l.length:=by unfold nE;rw[List.length_reverse,List.length_map,List.length_zipIdx]
def aaE (x:Nat×fB):Array Value := #[.int .i64 x.1,.agg #[.int .i64 x.2.1,.string x.2.2]]
theorem E7 (n B:Nat) (M₀:Nat→Prop) (l:List fB) (p:Option Addr) (c:Nat) (w:World) (hc:w.cell? ⟨B,0,none⟩=some (.slice p l.length c)) (hB:M₀ B) (hlen:l.length≤maxLen)
 (hrow:∀(i:Nat) (x:fB),l[i]?=some x→∃g o,p=some ⟨g,o,none⟩∧M₀ g∧w.cell? ⟨g,o+i*2,none⟩=some (.int .i64 x.1)∧w.cell? ⟨g,o+i*2+1,none⟩=some (.string x.2)) :
 NB n Tryz.prog 165 #[.pointer (some ⟨B,0,none⟩)] aaE M₀ (nE l) w:=by
 intro l' J Jx W hW Ms hJ2 hY h0;have c0:=ae hW hc;have bY:=aa (fun (i:Nat) (x:fB) (hx:l[i]?=some x)=>show ∃g o,p=some ⟨g,o,none⟩∧M₀ g∧W.cell? ⟨g,o+i*2,none⟩=some (.int .i64 x.1)∧W.cell? ⟨g,o+i*2+1,none⟩=some (.string x.2) by
  obtain ⟨g,o,h1,h2,h3,h4⟩:=hrow i x hx;exact ⟨g,o,h1,h2,ae hW h3,ae hW h4⟩)
 have H1:=aa Ms;have HY:=aa hY;have H0:=aa h0;have zr:=aa hB;have afX:=aa (fun (j:Nat) (x:fB) (hx:l[l.length-1-j]?=some x) (hj:j<l.length)=>Pj hx hj);have HLB:=aa (Pk l);obtain ⟨N,hN⟩:=aG l.length;rw[hN] at c0 hlen afX HLB;have HN:=aa hN;have Kf:=aa c0;have hlc:=fK (n:=N) hlen;clear hc hrow hW Ms hJ2 hY h0 hB hN hlen;refine callsIn_of_wp Tryz.func165 rfl trivial ?_ rfl;simp only[Tryz.ntmps165,List.size_toArray,List.length_cons,List.length_nil,Nat.reduceAdd,Nat.reduceSub,Array.replicate_succ,Array.replicate_zero,List.push_toArray,List.append_toArray,List.nil_append,List.cons_append];have hw1:wrap64 ((N:Int)-1)=(N:Int)-1:=by unfold wrap64;omega
 gi_wp2_with fail;clear c0 hw1;gi_loopw [3] (fun i wr=>∃k:Nat,k≤N∧i=.int .i64 ((N:Int)-1-k)∧J M₀ ((nE l).take k) wr∧fA M₀ W wr) (fun i _=>(intOf i+1).toNat)
 case atStart=>exact ⟨0,dQ,by simp,by rw[List.take_zero];exact H0,fA.refl _ _⟩
 case round=>
  obtain ⟨k,hk,rfl,hj,tF⟩:=hrel;have CR:=aa hj;have kg:=aa tF;clear hj tF;by_cases hlt:k<N
  case neg=>
   obtain rfl:k=N:=by omega
   have HT:=aa (show (nE l).take k=nE l from List.take_of_length_le (by rw[HLB.o];exact aT));have hd:decide ((0:Int)≤(k:Int)-1-(k:Int))=false:=decide_eq_false (by omega);gi_wp2_with fail;go_end0;exact ⟨⟨_,rfl⟩,Or.inl ⟨_,by have:=CR.o;rw[HT.o] at this;exact this⟩⟩
  obtain ⟨q,hq⟩:∃q:Nat,(N:Int)-1-(k:Int)=q:=⟨N-1-k,by omega⟩
  have hqn:N-1-k=q:=by omega
  have HQ:=aa hq;have HQN:=aa hqn;rw[hq];have hqi:(q:Int)<(N:Int):=by omega
  have hq0:(0:Int)≤(q:Int):=by omega
  have hd:decide ((0:Int)≤(q:Int))=true:=decide_eq_true hq0;obtain ⟨⟨x,y⟩,hx⟩:∃x,l[q]?=some x:=⟨_,List.getElem?_eq_getElem (by rw[HN.o];omega)⟩
  obtain ⟨g,o,rfl,NJ,r0,r1⟩:=bY.o q _ hx;have s0:=kg.cell (a:=⟨g,o+q*2,none⟩) NJ r0;have s1:=kg.cell (a:=⟨g,o+q*2+1,none⟩) NJ r1;have sb:=kg.cell (a:=⟨B,0,none⟩) zr Kf.o;have JP:=aa (oW (afX k _ (by rw[hqn];exact hx) hlt));rw[hqn] at JP;obtain ⟨fn,tmps,assign,body,Rt,hR⟩:=HY.o (n-1) _ _ (q,(x,y)) _ CR (by rw[← JP.o];exact List.take_prefix _ _);simp only[aaE] at Rt;clear hx r0 r1 NJ hq hqn;gi_wp2_with fail;refine ⟨fun h=>(by cases h),?_⟩;refine hR.mono ?_;rintro e W4 (⟨rfl,Mu,hk4⟩|⟨rfl,Mv⟩)
  ·have Rx:=aa Mu;have NF:=aa (kg.trans hk4)
   have hw2:wrap64 ((q:Int)-1)=(q:Int)-1:=by unfold wrap64;omega
   clear Mu hk4 s0 s1 sb;gi_wp2_with fail;go_roundw
   case rel=>exact ⟨k+1,by omega,by have:=HQ.o;simp;omega,by rw[JP.o];exact Rx,NF⟩
   case measure=>simp[intOf]
  ·have jQ:=aa Mv
   clear Mv s0 s1 sb;gi_wp2_with fail;refine bodyPost_ret (results_none rfl _ _ _) rfl ?_;exact ⟨⟨_,rfl⟩,Or.inr ⟨(nE l).take (k+1),List.take_prefix _ _,by rw[JP.o];exact jQ⟩⟩
attribute [local go_sem] Oper.semAt_some
theorem vh {l:List fB} {pos:Int} {s:ByteArray} (h:∀p∈l,¬p.1=pos):kL l pos s=s:=by
 unfold kL
 induction l generalizing s with
 |nil=>rfl
 |cons a l ih=>rw[List.foldl_cons,if_neg (h a (List.mem_cons_self ..))];exact ih fun p hp=>h p (List.mem_cons_of_mem _ hp)
theorem DF (l:List fB):(nE l).map (·.2)=l.reverse:=by unfold nE;rw[List.map_reverse,List.map_map];congr 1;have:(fun x:fB×Nat=>x.1)=((fun x:Nat×fB=>x.2)∘fun x:fB×Nat=>(x.2,x.1)):=rfl;rw[← this];exact List.zipIdx_map_fst 0 l
theorem I5 {l:List fB} {pos:Int} {s:ByteArray} {pre:List (Nat×fB)} {x:Nat×fB} (hp:pre++[x] <+: nE l) (hn:∀y∈pre,¬y.2.1=pos) (hx:x.2.1=pos):kL l pos s=x.2.2:=by
 obtain ⟨r,hr⟩:=hp;have h1:=congrArg (List.map (·.2)) hr;rw[DF] at h1;have h2:=congrArg List.reverse h1;rw[List.reverse_reverse] at h2;rw[← h2];simp only[List.map_append,List.map_cons,List.map_nil,List.reverse_append,List.reverse_cons,List.reverse_nil,List.nil_append];unfold kL;rw[List.foldl_append,List.foldl_append,List.foldl_cons,List.foldl_nil,if_pos hx];exact vh (fun p hp=>by
  rw[List.mem_reverse,List.mem_map] at hp;obtain ⟨y,hy,rfl⟩:=hp;exact hn y hy)
theorem E8 {l:List fB} {pos:Int} {s:ByteArray} (hn:∀y∈nE l,¬y.2.1=pos):kL l pos s=s:=by
 apply vh;intro p hp;have:p∈(nE l).map (·.2):=by rw[DF,List.mem_reverse];exact hp
 obtain ⟨y,hy,rfl⟩:=List.mem_map.1 this;exact hn y hy
theorem Tr (p:Option Addr) (n c:Nat) (w:World):Calls Tryz.prog 128 #[.slice p n c] w fun e w'=>e=.returned (.func (.func 165) #[] #[.pointer (some ⟨w.heap.size,0,none⟩)])∧w'=w.alloc (.cells #[.slice p n c] 23):=by go_enter Tryz.func128,Tryz.ntmps128;go_wp2_with fail;go_ret;exact ⟨rfl,rfl⟩
structure RdI (w:World) (R:Nat) (cs:List Value) (pos:Int) (M:Nat→Prop) (pre:List (Nat×fB)) (W:World):Prop where
 d:aJ W w.heap.size cs
 at_:aJ W (w.heap.size+1) [.int .i64 pos]
 s:aJ W (w.heap.size+1+1) [.string ⟨#[]⟩]
 c:aJ W (w.heap.size+1+1+1) [.int .i64 0]
 m:∀b,M b→b<W.heap.size
 below:Bw w W
 no:∀x∈pre,¬x.2.1=pos
theorem lX {w A C:World} {n:Nat} {row:Option Nat} (h:Bw w A) (hs:w.heap.size+n≤A.heap.size) (hg:A.grownBy C row) (hr:∀r,row=some r→w.heap.size+n≤r):Bw w C:=
 ⟨hg.os.trans h.os,hg.tape.trans h.tape,hg.output.trans h.output,Nat.le_trans h.size hg.size,fun k hk=>(hg.block k (by have:=h.size;omega) (fun e=>by have:=hr k e.symm;omega)).trans (h.block k hk)⟩
theorem RdI.kept {w:World} {R:Nat} {cs:List Value} {pos:Int} {M M':Nat→Prop} {pre:List (Nat×fB)} {A C:World} {row:Option Nat} (h:RdI w R cs pos M pre A) (hg:A.grownBy C row) (hr:∀r,row=some r→w.heap.size+4≤r) (hn:New M M' A C):RdI w R cs pos M' pre C:=by
 have hne:∀b,b<w.heap.size+4→some b≠row:=fun b hb e=>by have:=hr b e.symm;omega
 refine ⟨h.d.grown hg (hne _ (by omega)),h.at_.grown hg (hne _ (by omega)),h.s.grown hg (hne _ (by omega)),h.c.grown hg (hne _ (by omega)),fun b hm=>?_,lX h.below (by have:=h.c.lt;omega) hg hr,h.no⟩;rcases hn b hm with hm|hm
 ·have:=h.m b hm;have:=hg.size;omega
 ·exact hm.2
def RdX (w:World) (pos:Int) (c:Code) (pre:List (Nat×fB)) (W:World):Prop:=c=.ret∧Bw w W∧∃(tX:List (Nat×fB)) (x:Nat×fB),pre=tX++[x]∧(∀y∈tX,¬y.2.1=pos)∧x.2.1=pos∧aJ W (w.heap.size+1+1) [.string x.2.2]∧aJ W (w.heap.size+1+1+1) [.int .i64 0]
theorem Lv (d:aL) (pos:Int) (vk vc vp:Value) (w:World) (h:bP w d vk vc vp):Calls Tryz.prog 81 #[eE d vk vc vp,.int .i64 pos] w fun e w'=>e=.returned (.tuple #[.string (fq d pos).1,.int .i64 (fq d pos).2])∧Bw w w':=by
 have dS:=aa (fun (W:World) (hb:Bw w W)=>xm d vk vc vp W (h.below hb));obtain ⟨pk,ck,rfl,a1,a2⟩:=h.kept.slice;obtain ⟨pc,cc,rfl,b1,b2⟩:=h.cache.slice;obtain ⟨pp,cp,rfl,_,_⟩:=h.keep.slice;have HK:=aa h.kept.cells;have HC:=aa h.cache.cells;obtain ⟨⟨q1,q2⟩,hq⟩:∃q,fq d pos=q:=⟨_,rfl⟩
 rw[hq];have HQ:=aa hq;obtain ⟨m,hm⟩:=aG (gu d);rw[hm] at dS;have HM:=aa hm;obtain ⟨kept,cache,ah,keep,dead⟩:=d;simp only at HK HC a1 b1 ⊢;unfold eE at *;simp only at dS ⊢;obtain ⟨N,hN⟩:=aG kept.length;obtain ⟨L,hL⟩:=aG keep.length;have QS:=aa (fun (W:World)=>xj pk pc pp N ck cache.length cc L cp ah pos dead W (by omega));have tG:=aa (show cache.length≤maxLen by omega);rw[hN,hL] at dS ⊢;rw[hN] at a1;have HN:=aa hN;have lN:=fK (n:=N) a2;have HP:=aa h;clear h hq hm hN hL a1 a2 b1 b2;obtain ⟨W1,hW1⟩:=aG ((((w.alloc (.cells #[.slice pk N ck,.slice pc cache.length cc,.int .i64 ah,.slice pp L cp,.bool dead] 26)).alloc (.cells #[.int .i64 pos] 3)).alloc (.cells #[.string ⟨#[]⟩] 9)).alloc (.cells #[.int .i64 0] 33));have aU:=aa (show aJ W1 w.heap.size [.slice pk N ck,.slice pc cache.length cc,.int .i64 ah,.slice pp L cp,.bool dead]∧aJ W1 (w.heap.size+1) [.int .i64 pos]∧aJ W1 (w.heap.size+1+1) [.string ⟨#[]⟩]∧aJ W1 (w.heap.size+1+1+1) [.int .i64 0]∧Bw w W1 by
  rw[← hW1];obtain ⟨h1,h2,h3,h4⟩:=Ov w [.slice pk N ck,.slice pc cache.length cc,.int .i64 ah,.slice pp L cp,.bool dead] [.int .i64 pos] [.string ⟨#[]⟩] 26 3 9;refine ⟨h1.alloc _,h2.alloc _,h3.alloc _,?_,h4.alloc (by simp;omega) _⟩;have:=aJ.new (((w.alloc (.cells #[.slice pk N ck,.slice pc cache.length cc,.int .i64 ah,.slice pp L cp,.bool dead] 26)).alloc (.cells #[.int .i64 pos] 3)).alloc (.cells #[.string ⟨#[]⟩] 9)) [.int .i64 0] 33;rw[World.size_alloc,World.size_alloc,World.size_alloc] at this;exact this)
 have ed:=aa hW1;clear hW1;rw[← callsIn_wide (n:=6)];refine callsIn_of_wp_marks Tryz.func81 rfl trivial ?_ rfl;simp only[Tryz.ntmps81,List.size_toArray,List.length_cons,List.length_nil,Nat.reduceAdd,Nat.reduceSub,Array.replicate_succ,Array.replicate_zero,List.push_toArray,List.append_toArray,List.nil_append,List.cons_append];obtain ⟨x0,x1,x2,x3,x4⟩:=aU.1.five;have kS:=ed.o;cases m with
 |false=>
  have HF:=aa (show (⟨#[]⟩:ByteArray)=q1∧(1:Int)=q2 by
   have h:=HQ.o;rw[R8 HM.o] at h;injection h with h1 h2;exact ⟨h1,h2⟩)
  gi_wp2_with fail;refine ⟨trivial,?_⟩;refine (callsIn_wide.2 (dS _ aU.2.2.2.2)).mono ?_;rintro e w2 ⟨rfl,hb⟩;have C2:=aa (aU.1.below hb);have FT:=aa (aU.2.1.below hb);have Lp:=aa (aU.2.2.1.below hb);have pK:=aa (aU.2.2.2.1.below hb);have bU:=aa (ak aU.2.2.2.2 hb);clear hb x0 x1 x2 x3 x4 kS;obtain ⟨x0,x1,x2,x3,x4⟩:=C2.five;have xa:=FT.one;have s0:=Lp.one;have sf:=Lp.free 0;have c0:=pK.one;have cf:=pK.free 0;gi_wp2_with fail;have hsC:=(Lp.set 0 (.string ⟨#[]⟩)).far (b':=w.heap.size+1+1+1) (by omega) 0 (.int .i64 1);have hcC:=(pK.far (b':=w.heap.size+1+1) (by omega) 0 (.string ⟨#[]⟩)).set 0 (.int .i64 1);have hsc:=hsC.cell (j:=0) rfl;have hcc:=hcC.cell (j:=0) rfl;exact ⟨.tuple #[.string ⟨#[]⟩,.int .i64 1],by simp[results,Tryz.results81,go_sem,hsc,hcc],Ap HF.o.1 HF.o.2,(bU.o.setCell (p:=⟨w.heap.size+1+1,0,none⟩) (by show w.heap.size≤w.heap.size+1+1;omega) _).setCell (p:=⟨w.heap.size+1+1+1,0,none⟩) (by show w.heap.size≤w.heap.size+1+1+1;omega) _⟩
 |true=>
 gi_wp2_with fail;refine ⟨trivial,?_⟩;refine (callsIn_wide.2 (dS _ aU.2.2.2.2)).mono ?_;rintro e w2 ⟨rfl,hb⟩;have C2:=aa (aU.1.below hb);have FT:=aa (aU.2.1.below hb);have Lp:=aa (aU.2.2.1.below hb);have pK:=aa (aU.2.2.2.1.below hb);have bU:=aa (ak aU.2.2.2.2 hb);clear hb x0 x1 x2 x3 x4 kS;obtain ⟨x0,x1,x2,x3,x4⟩:=C2.five;have xa:=FT.one;have s0:=Lp.one;have sf:=Lp.free 0;have c0:=pK.one;have cf:=pK.free 0;cases dead with
 |true=>
  have HF:=aa (show (⟨#[]⟩:ByteArray)=q1∧(90:Int)=q2 by
   have h:=HQ.o;rw[KE HM.o rfl] at h;injection h with h1 h2;exact ⟨h1,h2⟩)
  gi_wp2_with fail;have hsC:=(Lp.set 0 (.string ⟨#[]⟩)).far (b':=w.heap.size+1+1+1) (by omega) 0 (.int .i64 90);have hcC:=(pK.far (b':=w.heap.size+1+1) (by omega) 0 (.string ⟨#[]⟩)).set 0 (.int .i64 90);have hsc:=hsC.cell (j:=0) rfl;have hcc:=hcC.cell (j:=0) rfl;exact ⟨.tuple #[.string ⟨#[]⟩,.int .i64 90],by simp[results,Tryz.results81,go_sem,hsc,hcc],Ap HF.o.1 HF.o.2,(bU.o.setCell (p:=⟨w.heap.size+1+1,0,none⟩) (by show w.heap.size≤w.heap.size+1+1;omega) _).setCell (p:=⟨w.heap.size+1+1+1,0,none⟩) (by show w.heap.size≤w.heap.size+1+1+1;omega) _⟩
 |false=>
 by_cases pV:0≤pos∧pos<N
 case neg=>
  have HF:=aa (show (⟨#[]⟩:ByteArray)=q1∧(1:Int)=q2 by
   have h:=HQ.o;rw[N6 HM.o rfl (by simp only;rw[HN.o];omega)] at h;injection h with h1 h2;exact ⟨h1,h2⟩)
  have HE:=aa (show decide (0≤pos∧pos<(N:Int))=false from decide_eq_false pV);clear pV;gi_wp2_with fail;refine ⟨trivial,?_⟩;refine (callsIn_wide.2 (QS _)).mono ?_;rintro e w3 ⟨rfl,hb⟩;rw[HE.o];have U0:=aa (C2.below hb);have Tf:=aa (FT.below hb);have Lr:=aa (Lp.below hb);have Gi:=aa (pK.below hb);have dG:=aV bU hb;clear hb x0 x1 x2 x3 x4 xa s0 sf c0 cf;obtain ⟨x0,x1,x2,x3,x4⟩:=U0.five;have xa:=Tf.one;have s0:=Lr.one;have sf:=Lr.free 0;have c0:=Gi.one;have cf:=Gi.free 0;gi_wp2_with fail;have hsC:=(Lr.set 0 (.string ⟨#[]⟩)).far (b':=w.heap.size+1+1+1) (by omega) 0 (.int .i64 1);have hcC:=(Gi.far (b':=w.heap.size+1+1) (by omega) 0 (.string ⟨#[]⟩)).set 0 (.int .i64 1);have hsc:=hsC.cell (j:=0) rfl;have hcc:=hcC.cell (j:=0) rfl;exact ⟨.tuple #[.string ⟨#[]⟩,.int .i64 1],by simp[results,Tryz.results81,go_sem,hsc,hcc],Ap HF.o.1 HF.o.2,(dG.o.setCell (p:=⟨w.heap.size+1+1,0,none⟩) (by show w.heap.size≤w.heap.size+1+1;omega) _).setCell (p:=⟨w.heap.size+1+1+1,0,none⟩) (by show w.heap.size≤w.heap.size+1+1+1;omega) _⟩
 case pos=>
  obtain ⟨K,rfl⟩:∃K:Nat,pos=K:=⟨pos.toNat,by omega⟩
  have HE:=aa (show decide (0≤(K:Int)∧(K:Int)<(N:Int))=true from decide_eq_true pV);obtain ⟨u,hu⟩:=fy (l:=kept) (k:=K) (by rw[HN.o];omega);have HLP:=aa (show kL cache K u=q1∧(0:Int)=q2 by
   have h:=HQ.o;rw[G9 HM.o rfl hu] at h;injection h with h1 h2;exact ⟨h1,h2⟩)
  have UG:(K:Int)<(N:Int):=pV.2;have hK0:(0:Int)≤(K:Int):=pV.1;have HU:=aa hu;clear pV hu;gi_wp2_with fail;refine ⟨trivial,?_⟩;refine (callsIn_wide.2 (QS _)).mono ?_;rintro e w3 ⟨rfl,hb⟩;rw[HE.o];have U0:=aa (C2.below hb);have Tf:=aa (FT.below hb);have Lr:=aa (Lp.below hb);have Gi:=aa (pK.below hb);have dG:=aV bU hb;clear hb x0 x1 x2 x3 x4 xa s0 sf c0 cf;obtain ⟨x0,x1,x2,x3,x4⟩:=U0.five;have xa:=Tf.one;have s0:=Lr.one;have sf:=Lr.free 0;have c0:=Gi.one;have cf:=Gi.free 0;gi_wp2_with fail;refine ⟨trivial,?_⟩;refine (callsIn_wide.2 (Tr _ _ _ _)).mono ?_;rintro e w4 ⟨rfl,rfl⟩;obtain ⟨W5,DG⟩:=aG (w3.alloc (.cells #[.slice pc cache.length cc] 23));have aR:Bw w3 W5:=by rw[← DG];exact aq
  have HD5:=aa (U0.below aR);have zk:=aa (Tf.below aR);have UN:=aa (Lr.below aR);have R5:=aa (Gi.below aR);have bA:=aV dG aR;have zt:=aa (show aJ W5 w3.heap.size [.slice pc cache.length cc] by rw[← DG];exact aJ.new w3 _ _);rw[DG];clear aR DG x0 x1 x2 x3 x4 xa s0 sf c0 cf;gi_wp2_with fail;have hseq:=E7 5 w3.heap.size (fun b=>b<W5.heap.size) cache pc cc W5 zt.one zt.lt tG (fun i x hx=>by
   obtain ⟨g,o,h1,h2⟩:=HC.o i x hx;have e0:=h2 0 _ rfl;have e1:=h2 1 _ rfl;have hl:=World.block_lt_of_cell? _ _ e0;exact ⟨g,o,h1,Nat.lt_of_lt_of_le hl bA.size,ae bA e0,ae bA e1⟩)
  have X8:w.heap.size+4≤W5.heap.size:=by have:=R5.lt;omega
  refine iy (n:=6) (gf:=165) (lb := #[.pointer (some ⟨w3.heap.size,0,none⟩)]) (by omega) rfl (enters_of Tryz.func165 (by kernel_rfl) rfl) hseq ?hM (fun _=>rfl) (fun M pre W=>RdI w 0 [.slice pk N ck,.slice pc cache.length cc,.int .i64 ah,.slice pp L cp,.bool false] K M pre W)
   (RdX w K) ?i1 ?i2 ?x1 ?x2 ?start
   (fun _ x a' W=>∃b7,w.heap.size+4≤b7∧aJ W b7 [.int .i64 x.2.1,.string x.2.2]∧a'={tmps := #[.agg #[.slice pk N ck,.slice pc cache.length cc,.int .i64 ah,.slice pp L cp,.bool false],.int .i64 K,.pointer (some ⟨w.heap.size,0,none⟩),.pointer (some ⟨w.heap.size+1,0,none⟩),.pointer (some ⟨w.heap.size+1+1,0,none⟩),.pointer (some ⟨w.heap.size+1+1+1,0,none⟩),uu,.pointer (some ⟨b7,0,none⟩),.agg #[.slice pk N ck,.slice pc cache.length cc,.int .i64 ah,.slice pp L cp,.bool false],.bool true,.bool false,.pointer (some ⟨w.heap.size,4,none⟩),.bool false,.agg #[.slice pk N ck,.slice pc cache.length cc,.int .i64 ah,.slice pp L cp,.bool false],.int .i64 K,.bool true,.bool false,.pointer (some ⟨w.heap.size,1,none⟩),.slice pc cache.length cc,.func (.func 165) #[] #[.pointer (some ⟨w3.heap.size,0,none⟩)],.int .i64 x.1,.agg #[.int .i64 x.2.1,.string x.2.2],uu,uu,uu,uu,uu,uu,uu,uu,uu,uu,uu],defers:=[]}) ?ax ?assign ?body ?done ?stop
  case hM=>exact fun b hb=>hb
  case i1=>exact fun M M' s A B h hg hn=>h.kept hg (fun r e=>by cases e) hn
  case i2=>exact fun M s A B r o h hg hr ho hc=>h.kept hg (fun r' e=>by cases e;omega) (fun b hb=>.inl hb)
  case x1=>rintro c s A B ⟨rfl,h1,tX,x,h2,h3,h4,h5,h6⟩ hg;exact ⟨rfl,lX (n:=4) h1 (by have:=h6.lt;omega) hg (fun r e=>by cases e),tX,x,h2,h3,h4,h5.grown hg (by simp),h6.grown hg (by simp)⟩
  case x2=>
   rintro c s A B r o ⟨rfl,h1,tX,x,h2,h3,h4,h5,h6⟩ hg hr ho hc;have hne:∀k,k<w.heap.size+4→some k≠some r:=fun k hk e=>by injection e with e;omega
   exact ⟨rfl,lX (n:=4) h1 (by have:=h6.lt;omega) hg (fun r' e=>by cases e;omega),tX,x,h2,h3,h4,h5.grown hg (hne _ (by omega)),h6.grown hg (hne _ (by omega))⟩
  case start=>exact ⟨HD5,zk,UN,R5,fun b hb=>hb,bA,fun x hx=>by simp at hx⟩
  case ax=>rintro M x a' A B r o ⟨b7,h0,h1,h2⟩ hg hr ho hc;refine ⟨b7,h0,h1.grown hg (fun e=>?_),h2⟩;injection e with e;subst e;obtain ⟨T,h1⟩:=h1;rw[h1] at ho;injection ho with ho;subst ho;cases hc
  case assign=>
   intro l M pre x W KK hi hK
   dsimp only[aaE]
   have hlt:=hi.c.lt;gi_wp2;exact hK _ _ (World.grownBy_alloc _ _ _) ⟨_,by omega,aJ.new W _ _,rfl⟩
  case body=>
   rintro l M pre x a' W hi ⟨b7,dO,fN,rfl⟩ wX;have HI:=aa hi;have sO:=aa fN;obtain ⟨p0,p1⟩:=fN.two;have xa:=hi.at_.one;have s0:=hi.s.one;have sf:=hi.s.free 0;have c0:=hi.c.one;have cf:=hi.c.free 0;clear hi fN hseq;by_cases hh:x.2.1=(K:Int)
   ·have hd:(x.2.1==(K:Int))=true:=by simpa using hh
    have HH:=aa hh;clear hh;gi_wp2;refine ⟨((KeepsOthers.setCell _ _ _).from _).trans ((KeepsOthers.setCell _ _ _).from _),rfl,(HI.below.setCell (p:=⟨w.heap.size+1+1,0,none⟩) (by show w.heap.size≤w.heap.size+1+1;omega) _).setCell (p:=⟨w.heap.size+1+1+1,0,none⟩) (by show w.heap.size≤w.heap.size+1+1+1;omega) _,pre,x,rfl,HI.no,HH,(HI.s.set 0 _).far (by omega) _ _,(HI.c.far (by omega) _ _).set 0 _⟩
   ·have hd:(x.2.1==(K:Int))=false:=by simpa using hh
    have HH:=aa hh;clear hh;gi_wp2;refine ⟨KeepsFrom.refl _ _,fA.refl _ _,HI.d,HI.at_,HI.s,HI.c,HI.m,HI.below,fun y hy=>?_⟩;rw[List.mem_append,List.mem_singleton] at hy;rcases hy with hy|rfl
    ·exact HI.no y hy
    ·exact HH.o
  case done=>
   rintro D M W hD hi hK;have HI:=aa hi;obtain ⟨x0,x1,x2,x3,x4⟩:=hi.d.five;have xa:=hi.at_.one;have s0:=hi.s.one;have sf:=hi.s.free 0;have c0:=hi.c.one;have cf:=hi.c.free 0;obtain ⟨g,o,rfl,hcell⟩:=HK.o K _ HU.o;have r0:=ae HI.below (hcell 0 _ rfl);simp only[Nat.mul_one,Nat.add_zero] at r0;have HF:=aa (show u=q1∧(0:Int)=q2 from ⟨by rw[← HLP.o.1,E8 HI.o.no],HLP.2⟩);clear hi hseq hcell;gi_wp2;have hsC:=(HI.s.set 0 (.string u)).far (b':=w.heap.size+1+1+1) (by omega) 0 (.int .i64 0);have hcC:=(HI.c.far (b':=w.heap.size+1+1) (by omega) 0 (.string u)).set 0 (.int .i64 0);have hK2:((W.setCell ⟨w.heap.size+1+1,0,none⟩ (.string u)).setCell ⟨w.heap.size+1+1+1,0,none⟩ (.int .i64 0)).heap[D]?=some (.deferred (some [])):=by rw[Below.heap_setCell _ _ _ D (by show D≠w.heap.size+1+1+1;omega),Below.heap_setCell _ _ _ D (by show D≠w.heap.size+1+1;omega)];exact hK
   refine ⟨by simp,.inl ⟨_,_,rfl,run_takeDeferred hK2,?_⟩⟩;have hsc:=(hsC.grown (grownBy_putObj' _ D (.deferred none)) (by intro e;injection e with e;omega)).cell (j:=0) rfl;have hcc:=(hcC.grown (grownBy_putObj' _ D (.deferred none)) (by intro e;injection e with e;omega)).cell (j:=0) rfl;exact ⟨.tuple #[.string u,.int .i64 0],by simp[results,Tryz.results81,go_sem,hsc,hcc],Ap HF.o.1 HF.o.2,((HI.o.below.setCell (p:=⟨w.heap.size+1+1,0,none⟩) (by show w.heap.size≤w.heap.size+1+1;omega) _).setCell (p:=⟨w.heap.size+1+1+1,0,none⟩) (by show w.heap.size≤w.heap.size+1+1+1;omega) _).trans (belowK_b (w:=w) aT _ D _ _ (by omega) hK2 rfl rfl)⟩
  case stop=>rintro D c pre W hD hp ⟨rfl,h1,tX,x,rfl,h3,h4,h5,h6⟩ hK;have HF:=aa (show x.2.2=q1∧(0:Int)=q2 from ⟨by rw[← HLP.o.1,I5 hp h3 h4],HLP.2⟩);have H1:=aa h1;have H5:=aa h5;have H6:=aa h6;clear h1 h5 h6 hseq hp h3 h4;gi_wp2;refine ⟨by simp,.inl ⟨_,_,rfl,run_takeDeferred hK,?_⟩⟩;have hsc:=(H5.grown (grownBy_putObj' _ D (.deferred none)) (by intro e;injection e with e;omega)).cell (j:=0) rfl;have hcc:=(H6.grown (grownBy_putObj' _ D (.deferred none)) (by intro e;injection e with e;omega)).cell (j:=0) rfl;exact ⟨.tuple #[.string x.2.2,.int .i64 0],by simp[results,Tryz.results81,go_sem,hsc,hcc],Ap HF.o.1 HF.o.2,H1.o.trans (belowK_b (w:=w) aT _ D _ _ (by omega) hK rfl rfl)⟩
attribute [local go_sem] Oper.semAt_some
structure FiI (w:World) (n:Int) (M:Nat→Prop) (pre:List (Nat×Nat)) (W:World):Prop where
 at_:aJ W w.heap.size [.int .i64 n]
 c:aJ W (w.heap.size+1) [.int .i64 0]
 m:∀b,M b→b<W.heap.size
 below:Bw w W
 no:∀x∈pre,¬n≤(x.2:Int)
theorem FiI.kept {w:World} {n:Int} {M M':Nat→Prop} {pre:List (Nat×Nat)} {A C:World} {row:Option Nat} (h:FiI w n M pre A) (hg:A.grownBy C row) (hr:∀r,row=some r→w.heap.size+2≤r) (hn:New M M' A C):FiI w n M' pre C:=by
 have hne:∀b,b<w.heap.size+2→some b≠row:=fun b hb e=>by have:=hr b e.symm;omega
 refine ⟨h.at_.grown hg (hne _ (by omega)),h.c.grown hg (hne _ (by omega)),fun b hm=>?_,lX h.below (by have:=h.c.lt;omega) hg hr,h.no⟩;rcases hn b hm with hm|hm
 ·have:=h.m b hm;have:=hg.size;omega
 ·exact hm.2
def FiX (w:World) (n:Int) (c:Code) (pre:List (Nat×Nat)) (W:World):Prop:=c=.ret∧Bw w W∧∃(tX:List (Nat×Nat)) (x:Nat×Nat),pre=tX++[x]∧(∀y∈tX,¬n≤(y.2:Int))∧n≤(x.2:Int)∧aJ W (w.heap.size+1) [.int .i64 x.1]
theorem Lx (u:List Bool) (n:Int) (v1:Value) (w:World) (h:dA w v1 u) (hu:u.length≤1000000):Calls Tryz.prog 125 #[v1,.int .i64 n] w fun e w'=>e=.returned (.int .i64 (fH u n))∧Bw w w':=by
 obtain ⟨p,c,rfl,a1,a2⟩:=h.slice;have HC:=aa h.cells;have HU:=aa hu;obtain ⟨r,hr⟩:=aG (fH u n);rw[hr];have HR:=aa hr;clear h hr hu a1 a2;obtain ⟨W1,hW1⟩:=aG ((w.alloc (.cells #[.int .i64 n] 3)).alloc (.cells #[.int .i64 0] 3));have aU:=aa (zb w [.int .i64 n] [.int .i64 0] 3 3);rw[hW1] at aU;have ed:=aa hW1;clear hW1;rw[← callsIn_wide (n:=6)];refine callsIn_of_wp_marks Tryz.func125 rfl trivial ?_ rfl;simp only[Tryz.ntmps125,List.size_toArray,List.length_cons,List.length_nil,Nat.reduceAdd,Nat.reduceSub,Array.replicate_succ,Array.replicate_zero,List.push_toArray,List.append_toArray,List.nil_append,List.cons_append];have xa:=aU.1.one;have c0:=aU.2.1.one;have cf:=aU.2.1.free 0;have kS:=ed.o;by_cases hn:n<1
 case pos=>have HF:=aa (show (-1:Int)=r by rw[← HR.o,Lu hn]);have hd:decide (n<1)=true:=decide_eq_true hn;gi_wp2_with fail;have hc:=(aU.2.1.set 0 (.int .i64 (-1))).one;exact ⟨.int .i64 (-1),by simp[results,Tryz.results125,go_sem,hc],kP HF.o,aU.o.2.2.setCell (p:=⟨w.heap.size+1,0,none⟩) (by show w.heap.size≤w.heap.size+1;omega) _⟩
 case neg=>
  have HH:=aa (show Be n (jl u 0)=r by rw[← HR.o,Lt (by omega)]);have hd:decide (n<1)=false:=decide_eq_false hn;gi_wp2_with fail;refine ⟨trivial,?_⟩;refine (callsIn_wide.2 (Ph _ _ _ _)).mono ?_;rintro e w4 ⟨rfl,rfl⟩;obtain ⟨W5,DG⟩:=aG (W1.alloc (.cells #[.slice p u.length c] 24));have aR:Bw W1 W5:=by rw[← DG];exact aq
  have zk:=aa (aU.1.below aR);have R5:=aa (aU.2.1.below aR);have bA:=aa (ak aU.2.2 aR);have zt:=aa (show aJ W5 W1.heap.size [.slice p u.length c] by rw[← DG];exact aJ.new W1 _ _)
  try rw[DG]
  clear aR DG xa c0 cf kS;gi_wp2_with fail;have hseq:=Tq 5 W1.heap.size (fun b=>b<W5.heap.size) u p c W5 zt.one zt.lt HU (fun i x hx=>by
   obtain ⟨g,o,h1,h2⟩:=HC.o i x hx;have hl:=World.block_lt_of_cell? _ _ h2;exact ⟨g,o,h1,Nat.lt_of_lt_of_le hl bA.size,ae bA h2⟩)
  have X8:w.heap.size+2≤W5.heap.size:=by have:=R5.lt;omega
  refine iy (n:=6) (gf:=199) (lb := #[.pointer (some ⟨W1.heap.size,0,none⟩)]) (by omega) rfl (enters_of Tryz.func199 (by kernel_rfl) rfl) hseq ?hM (fun _=>rfl) (fun M pre W=>FiI w n M pre W)
   (FiX w n) ?i1 ?i2 ?x1 ?x2 ?start
   (fun _ x a' _=>a'={tmps := #[.slice p u.length c,.int .i64 n,uu,.pointer (some ⟨w.heap.size,0,none⟩),.pointer (some ⟨w.heap.size+1,0,none⟩),.int .i64 x.1,.int .i64 x.2,.int .i64 n,.bool false,.slice p u.length c,.func (.func 199) #[] #[.pointer (some ⟨W1.heap.size,0,none⟩)],.int .i64 x.1,.int .i64 x.2,uu,uu,uu,uu],defers:=[]}) ?ax ?assign ?body ?done ?stop
  case hM=>exact fun b hb=>hb
  case i1=>exact fun M M' s A B h hg hn=>h.kept hg (fun r e=>by cases e) hn
  case i2=>exact fun M s A B r o h hg hr ho hc=>h.kept hg (fun r' e=>by cases e;omega) (fun b hb=>.inl hb)
  case x1=>rintro c s A B ⟨rfl,h1,tX,x,h2,h3,h4,h6⟩ hg;exact ⟨rfl,lX (n:=2) h1 (by have:=h6.lt;omega) hg (fun r e=>by cases e),tX,x,h2,h3,h4,h6.grown hg (by simp)⟩
  case x2=>
   rintro c s A B r o ⟨rfl,h1,tX,x,h2,h3,h4,h6⟩ hg hr ho hc;have hne:∀k,k<w.heap.size+2→some k≠some r:=fun k hk e=>by injection e with e;omega
   exact ⟨rfl,lX (n:=2) h1 (by have:=h6.lt;omega) hg (fun r' e=>by cases e;omega),tX,x,h2,h3,h4,h6.grown hg (hne _ (by omega))⟩
  case start=>exact ⟨zk,R5,fun b hb=>hb,bA,fun x hx=>by simp at hx⟩
  case ax=>exact fun M x a' A B r o h hg hr ho hc=>h
  case assign=>
   intro l M pre x W KK hi hK
   dsimp only[Nb]
   gi_wp2;exact hK _ _ ⟨rfl,rfl,rfl,aT,fun _ _ _=>rfl⟩ rfl
  case body=>
   rintro l M pre x a' W hi rfl wX;have HI:=aa hi;have xa:=hi.at_.one;have c0:=hi.c.one;have cf:=hi.c.free 0;clear hi hseq;by_cases hh:n≤(x.2:Int)
   ·have hd:decide (n≤(x.2:Int))=true:=decide_eq_true hh
    have HH2:=aa hh;clear hh;gi_wp2;exact ⟨(KeepsOthers.setCell _ _ _).from _,rfl,HI.below.setCell (p:=⟨w.heap.size+1,0,none⟩) (by show w.heap.size≤w.heap.size+1;omega) _,pre,x,rfl,HI.no,HH2,HI.c.set 0 _⟩
   ·have hd:decide (n≤(x.2:Int))=false:=decide_eq_false hh
    have HH2:=aa hh;clear hh;gi_wp2;refine ⟨KeepsFrom.refl _ _,fA.refl _ _,HI.at_,HI.c,HI.m,HI.below,fun y hy=>?_⟩;rw[List.mem_append,List.mem_singleton] at hy;rcases hy with hy|rfl
    ·exact HI.no y hy
    ·have:=HH2.o;omega
  case done=>
   rintro D M W hD hi hK;have HI:=aa hi;have c0:=hi.c.one;have cf:=hi.c.free 0;have HF:=aa (show (-1:Int)=r by rw[← HH.o,WO HI.o.no]);clear hi hseq;gi_wp2;have hK2:(W.setCell ⟨w.heap.size+1,0,none⟩ (.int .i64 (-1))).heap[D]?=some (.deferred (some [])):=by rw[Below.heap_setCell _ _ _ D (by show D≠w.heap.size+1;omega)];exact hK
   refine ⟨by simp,.inl ⟨_,_,rfl,run_takeDeferred hK2,?_⟩⟩;have hcc:=((HI.c.set 0 (.int .i64 (-1))).grown (grownBy_putObj' _ D (.deferred none)) (by intro e;injection e with e;omega)).cell (j:=0) rfl;exact ⟨.int .i64 (-1),by simp[results,Tryz.results125,go_sem,hcc],kP HF.o,(HI.o.below.setCell (p:=⟨w.heap.size+1,0,none⟩) (by show w.heap.size≤w.heap.size+1;omega) _).trans (belowK_b (w:=w) aT _ D _ _ (by omega) hK2 rfl rfl)⟩
  case stop=>rintro D c pre W hD hp ⟨rfl,h1,tX,x,rfl,h3,h4,h6⟩ hK;have HF:=aa (show (x.1:Int)=r by rw[← HH.o,Tp hp h3 h4]);have H1:=aa h1;have H6:=aa h6;clear h1 h6 hseq hp h3 h4;gi_wp2;refine ⟨by simp,.inl ⟨_,_,rfl,run_takeDeferred hK,?_⟩⟩;have hcc:=(H6.grown (grownBy_putObj' _ D (.deferred none)) (by intro e;injection e with e;omega)).cell (j:=0) rfl;exact ⟨.int .i64 x.1,by simp[results,Tryz.results125,go_sem,hcc],kP HF.o,H1.o.trans (belowK_b (w:=w) aT _ D _ _ (by omega) hK rfl rfl)⟩
end Go.Proofs.YtbigkioechkngaaGreat
namespace Go.Proofs.YtbigkioechkngaaGreat
open Go.RowKit
theorem abb:(Tryz.prog.info? 3).map (fun i=>(i.zero,i.size,i.bytes))=some (some (.int .i64 0),1,8):=by kernel_rfl
theorem yF (p:Option Addr) (n c:Nat) (xs:List Value) (w:World) (hs:iN w p n 1 xs) (hn:n≤1000000000) :
 Calls Tryz.prog 121 #[.slice p n c] w fun e w'=>∃v',e=.returned v'∧w'.ownsRow w.heap.size 3 1 v' n xs∧Bw w w':=by
 obtain ⟨hl,hnil,h1,hx⟩:=hs;cases p with
 |none=>have hq:∀w:World,(binOp .eql 70 (.slice none 0 c) (.slice none 0 0)).run Tryz.prog w=.ok (.bool true) w:=fun w=>Lib.run_eql_slice_nil w 70 3 none 0 c 0 0 Tryz.underlying70;obtain rfl:=hnil rfl;obtain rfl:xs=[]:=List.eq_nil_of_length_eq_zero (by rw[hl,Nat.zero_mul]);clear hnil hx h1 hl hn;go_enter Tryz.func121,Tryz.ntmps121;go_wp2_with fail;go_ret;exact ⟨_,rfl,World.ownsRow_nil _ _ _ _,aH⟩
 |some a=>
  have HX:=aa (hx a rfl);have HL:=aa hl;have H1:=aa h1;have HN:=aa hn;clear hnil hx h1 hl hn;have hq:∀w:World,(binOp .eql 70 (.slice (some a) n c) (.slice none 0 0)).run Tryz.prog w=.ok (.bool false) w:=fun w=>Lib.run_eql_slice_nil w 70 3 (some a) n c 0 0 Tryz.underlying70;obtain ⟨i0,hi,hz0,hz1,hz2⟩:=info_parts abb;have HB:=aa (((Below.refl w.heap.size w).alloc aT (.cells #[] 3)));go_enter Tryz.func121,Tryz.ntmps121;go_wp2_with (at_builtin;refine wpList_append_own _ rfl _ _ 70 rfl w.heap.size 3 i0 (.int .i64 0) 1 8 Tryz.underlying70 hi hz0 hz1 hz2 rfl (by decide) _ 0 [] rfl (World.ownsRow_made w #[] 0 aT (by unfold maxLen;omega) rfl) a n c xs rfl ?_ ?_ ?_ ?_ ?_ ?_ ?_)
  ·exact HL.o
  ·intro j u hu;exact cell_later HB (HX j u hu)
  ·exact H1.o
  ·have:=HN.o;unfold maxLen;omega
  ·have:=HN.o;omega
  ·simp
  ·intro v' w1 hown hg _
   have HO:=aa hown;have HG:=aa hg;clear hown hg;go_wp2_with fail;go_ret;exact ⟨v',rfl,by simpa using HO.o,HB.grown HG (by simp) (fun k e=>by simp[Value.ownBlock] at e;omega)⟩
end Go.Proofs.YtbigkioechkngaaGreat
