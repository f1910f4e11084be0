/- The proof, part 16. -/
import Derived.Test.YtbigkioechkngaaGreatQ14
import Derived.Test.YtbigkioechkngaaGreatRows
import Derived.OpenShut
import Derived.Deep.DeepHandedRow
set_option maxRecDepth 100000
set_option maxHeartbeats 8000000
namespace Go.Proofs.YtbigkioechkngaaGreat
open Go.RowKit
theorem MT {l:List aj} {p s:Int}:l.any (fun u=>decide (u.1=p∧u.2.1=s))=true↔∃(j:Nat) (u:aj),l[j]?=some u∧u.1=p∧u.2.1=s:=by
 rw[List.any_eq_true];constructor
 ·rintro ⟨u,hu,h⟩
  obtain ⟨j,hj⟩:=List.getElem?_of_mem hu;exact ⟨j,u,hj,(of_decide_eq_true h).1,(of_decide_eq_true h).2⟩
 ·rintro ⟨j,u,hj,h1,h2⟩
  exact ⟨u,List.mem_of_getElem? hj,decide_eq_true ⟨h1,h2⟩⟩
def eC (p:bX) (x:aA):Int:=2+2*p.met+16*x.chunk+x.pos
def PV.Sl (v:PV):Prop:=∃pk nk ck pc nc cc pp np cp pv nv cv pt nt ct,v=⟨.slice pk nk ck,.slice pc nc cc,.slice pp np cp,.slice pv nv cv,.slice pt nt ct⟩
theorem bh.sl {w:World} {p:bX} {v:PV} (h:bh w p v):v.Sl:=by obtain ⟨pk,ck,ek,_,_⟩:=h.disk.kept.slice;obtain ⟨pc,cc,ec,_,_⟩:=h.disk.cache.slice;obtain ⟨pp,cp,ep,_,_⟩:=h.disk.keep.slice;obtain ⟨pt,ct,et,_,_⟩:=jw h.tabs;obtain ⟨pv,cv,ev,_⟩:=h.av;obtain ⟨vk,vc,vp,vv,vt⟩:=v;simp only at ek ec ep et ev;subst ek;subst ec;subst ep;subst et;subst ev;exact ⟨_,_,_,_,_,_,_,_,_,_,_,_,_,_,_,rfl⟩
theorem yj (p:bX) (v:PV) (x:aA) (w:World) (hv:v.Sl) (hm:0≤p.met∧p.met≤1000) (hc:0≤x.chunk∧x.chunk≤1000) (hp:0≤x.pos∧x.pos≤16):Calls Tryz.prog 20 #[dZ p v,x.agg] w fun e w'=>e=.returned (.int .i64 (eC p x))∧Bw w w':=by obtain ⟨pk,nk,ck,pc,nc,cc,pp,np,cp,pv,nv,cv,pt,nt,ct,rfl⟩:=hv;obtain ⟨⟨kept,cache,ah,keep,dead⟩,met,gen,aD,av,tabs⟩:=p;obtain ⟨xc,xp,xs,xk⟩:=x;unfold dZ aA.agg eC;simp only at hm hc hp ⊢;obtain ⟨W1,hW1⟩:=aG ((w.alloc (.cells #[.slice pk nk ck,.slice pc nc cc,.int .i64 ah,.slice pp np cp,.bool dead,.int .i64 met,.int .i64 gen,.int .i64 aD,.slice pv nv cv,.slice pt nt ct] 30)).alloc (.cells #[.int .i64 xc,.int .i64 xp,.int .i64 xs,.bool xk] 50));have aZ:=aa (show Bw w W1 by rw[← hW1];exact (aq).alloc (by simp) _);have aU:=aa (show aJ W1 w.heap.size [.slice pk nk ck,.slice pc nc cc,.int .i64 ah,.slice pp np cp,.bool dead,.int .i64 met,.int .i64 gen,.int .i64 aD,.slice pv nv cv,.slice pt nt ct] by rw[← hW1];exact (aJ.new w _ _).alloc _);have Ck:=aa (show aJ W1 (w.heap.size+1) [.int .i64 xc,.int .i64 xp,.int .i64 xs,.bool xk] by rw[← hW1];have:=aJ.new (w.alloc (.cells #[.slice pk nk ck,.slice pc nc cc,.int .i64 ah,.slice pp np cp,.bool dead,.int .i64 met,.int .i64 gen,.int .i64 aD,.slice pv nv cv,.slice pt nt ct] 30)) [.int .i64 xc,.int .i64 xp,.int .i64 xs,.bool xk] 50;rw[World.size_alloc] at this;exact this);have ed:=aa hW1;clear hW1;go_enter Tryz.func20,Tryz.ntmps20;go_upto_region 1 with fail;rw[ed.o];clear ed;have x5:=aU.cell (j:=5) rfl;have r0:=Ck.cell (j:=0) rfl;have r1:=Ck.cell (j:=1) rfl;have e1:wrap64 (2*met)=2*met:=dK (by omega) (by omega);have e2:wrap64 (2+2*met)=2+2*met:=dK (by omega) (by omega);have e3:wrap64 (16*xc)=16*xc:=dK (by omega) (by omega);have e4:wrap64 (2+2*met+16*xc)=2+2*met+16*xc:=dK (by omega) (by omega);have e5:wrap64 (2+2*met+16*xc+xp)=2+2*met+16*xc+xp:=dK (by omega) (by omega);clear hm hc hp;go_wp2_with fail;go_ret;exact ⟨kP e5,aZ⟩
theorem yl (p:bX) (v:PV) (x:aA) (w:World) (hv:v.Sl) (hm:0≤p.met∧p.met≤1000) (hc:0≤x.chunk∧x.chunk≤1000) (hp:0≤x.pos∧x.pos≤16):Calls Tryz.prog 32 #[dZ p v,x.agg] w fun e w'=>e=.returned (.int .i64 (eC p x))∧Bw w w':=by obtain ⟨pk,nk,ck,pc,nc,cc,pp,np,cp,pv,nv,cv,pt,nt,ct,rfl⟩:=hv;obtain ⟨⟨kept,cache,ah,keep,dead⟩,met,gen,aD,av,tabs⟩:=p;obtain ⟨xc,xp,xs,xk⟩:=x;unfold dZ aA.agg eC;simp only at hm hc hp ⊢;obtain ⟨W1,hW1⟩:=aG ((w.alloc (.cells #[.slice pk nk ck,.slice pc nc cc,.int .i64 ah,.slice pp np cp,.bool dead,.int .i64 met,.int .i64 gen,.int .i64 aD,.slice pv nv cv,.slice pt nt ct] 30)).alloc (.cells #[.int .i64 xc,.int .i64 xp,.int .i64 xs,.bool xk] 50));have aZ:=aa (show Bw w W1 by rw[← hW1];exact (aq).alloc (by simp) _);have aU:=aa (show aJ W1 w.heap.size [.slice pk nk ck,.slice pc nc cc,.int .i64 ah,.slice pp np cp,.bool dead,.int .i64 met,.int .i64 gen,.int .i64 aD,.slice pv nv cv,.slice pt nt ct] by rw[← hW1];exact (aJ.new w _ _).alloc _);have Ck:=aa (show aJ W1 (w.heap.size+1) [.int .i64 xc,.int .i64 xp,.int .i64 xs,.bool xk] by rw[← hW1];have:=aJ.new (w.alloc (.cells #[.slice pk nk ck,.slice pc nc cc,.int .i64 ah,.slice pp np cp,.bool dead,.int .i64 met,.int .i64 gen,.int .i64 aD,.slice pv nv cv,.slice pt nt ct] 30)) [.int .i64 xc,.int .i64 xp,.int .i64 xs,.bool xk] 50;rw[World.size_alloc] at this;exact this);have ed:=aa hW1;clear hW1;go_enter Tryz.func32,Tryz.ntmps32;go_upto_region 1 with fail;rw[ed.o];clear ed;have x5:=aU.cell (j:=5) rfl;have r0:=Ck.cell (j:=0) rfl;have r1:=Ck.cell (j:=1) rfl;have e1:wrap64 (2*met)=2*met:=dK (by omega) (by omega);have e2:wrap64 (2+2*met)=2+2*met:=dK (by omega) (by omega);have e3:wrap64 (16*xc)=16*xc:=dK (by omega) (by omega);have e4:wrap64 (2+2*met+16*xc)=2+2*met+16*xc:=dK (by omega) (by omega);have e5:wrap64 (2+2*met+16*xc+xp)=2+2*met+16*xc+xp:=dK (by omega) (by omega);clear hm hc hp;go_wp2_with fail;go_ret;exact ⟨kP e5,aZ⟩
theorem qX {u:List Bool} {n:Int}:∀(f a:Nat) (r:Int),gP u n f a=r→0≤r→∃q:Nat,r=q∧iR u q n=true
 |0,a,r,h,h0=>by unfold gP at h;omega
 |f+1,a,r,h,h0=>by
  unfold gP at h
  split at h
  ·rename_i hf;exact ⟨a,h.symm,hf⟩
  ·exact qX f (a+1) r h h0
theorem xe {u:List Bool} {q:Nat} {n:Int} (h:iR u q n=true):u[q]?=some false∧1≤n∧(q:Int)+n≤u.length:=by
 unfold iR at h;rw[Bool.and_eq_true,decide_eq_true_eq,List.all_eq_true] at h;obtain ⟨⟨h1,h2⟩,h3⟩:=h;refine ⟨?_,h1,by omega⟩;have hq:q<u.length:=by omega
 rw[List.getElem?_eq_getElem hq];have hm:u[q]∈(u.drop q).take n.toNat:=by rw[List.mem_iff_getElem?];refine ⟨0,?_⟩;rw[List.getElem?_take_of_lt (by omega),List.getElem?_drop,Nat.add_zero,List.getElem?_eq_getElem hq]
 have:=h3 _ hm;simp only[Bool.not_eq_true'] at this;rw[this]
theorem DD {l:List aj} {n a:Int} (hm:dD l=true) (ha:fH (fP l) n=a) (h0:0≤a):(∀u∈l,¬u.1=a)∧1≤n∧a+n≤16:=by
 obtain ⟨q,rfl,hf⟩:=qX _ _ _ ha h0;obtain ⟨h1,h2,h3⟩:=xe hf;rw[kA] at h3;refine ⟨fun u hu he=>?_,h2,by omega⟩;have hq:q<16:=by omega
 unfold fP at h1;rw[List.getElem?_map,List.getElem?_range hq] at h1;simp only[Option.map_some,Option.some.injEq] at h1;rw[List.any_eq_false] at h1;refine h1 u hu ?_;have hok:=bW.1 (gV hm hu);unfold jX;exact decide_eq_true (by omega)
theorem Bb {a n:Int}:∀ {l:List aj} {k:Nat},(∀u∈l,¬u.1=a)→(∀(j:Nat) u,j<k→l[j]?=some u→u.1<a)→(∀u,l[k]?=some u→a≤u.1)→k≤l.length→iK a n l=l.take k++[(a,n,1,false)]++l.drop k
 |[],k,_,_,_,hk=>by
  obtain rfl:k=0:=by simpa using hk
  rfl
 |u::l,0,hn,_,h2,_=>by have h3:=h2 u rfl;have h4:=hn u (List.mem_cons_self ..);unfold iK;rw[if_pos (by omega)];rfl
 |u::l,k+1,hn,h1,h2,hk=>by have h3:=h1 0 u (by omega) rfl;unfold iK;rw[if_neg (by omega),Bb (k:=k) (fun v hv=>hn v (List.mem_cons_of_mem _ hv)) (fun j v hj hv=>h1 (j+1) v (by omega) (by rw[List.getElem?_cons_succ];exact hv)) (fun v hv=>h2 v (by rw[List.getElem?_cons_succ];exact hv)) (by simpa using hk)];rw[List.take_succ_cons,List.drop_succ_cons];rfl
theorem lO:∀(l:List aj) (i:Nat),(aI l).take (i*4)=aI (l.take i)
 |[],i=>by simp[aI]
 |u::l,0=>by simp[aI]
 |u::l,i+1=>by
  have ih:=lO l i;have e:aI (u::l)=cO u++aI l:=by unfold aI;rw[List.map_cons,List.flatten_cons]
  rw[e,List.take_succ_cons,show aI (u::l.take i)=cO u++aI (l.take i) by unfold aI;rw[List.map_cons,List.flatten_cons],← ih,List.take_append];have h4:(cO u).length=4:=rfl;rw[h4,List.take_of_length_le (by rw[h4];omega),show (i+1)*4-4=i*4 by omega]
theorem lR:∀(l:List aj) (i:Nat),(aI l).drop (i*4)=aI (l.drop i)
 |[],i=>by simp[aI]
 |u::l,0=>by simp[aI]
 |u::l,i+1=>by
  have ih:=lR l i;have e:aI (u::l)=cO u++aI l:=by unfold aI;rw[List.map_cons,List.flatten_cons]
  rw[e,List.drop_succ_cons,← ih,List.drop_append];have h4:(cO u).length=4:=rfl;rw[h4,List.drop_of_length_le (by rw[h4];omega),List.nil_append,show (i+1)*4-4=i*4 by omega]
theorem kX (a b:List aj):aI a++aI b=aI (a++b):=by unfold aI;rw[List.map_append,List.flatten_append]
theorem yz (u:aj):aI [u]=cO u:=by unfold aI;simp
theorem jo (l:List aj):∀u∈aI l,u.oneCell'=true:=by intro u hu;unfold aI at hu;obtain ⟨q,hq,hu⟩:=List.mem_flatten.1 hu;obtain ⟨x,_,rfl⟩:=List.mem_map.1 hq;unfold cO at hu;simp only[List.mem_cons,List.not_mem_nil,or_false] at hu;rcases hu with rfl|rfl|rfl|rfl <;> rfl
theorem Bc:∀ {l:List aj} {e:Int},hP e l=true→∀u∈l,e≤u.1:=fun h u hu=>(Am _ _ h u hu).2
theorem Tm {u:aj} (h:fG u=true):sS u=true:=by
 have h4:=bW.1 h;unfold sS;by_cases h5:0<u.2.2.1
 ·rw[decide_eq_true h5];rfl
 ·rw[h4.2.2.2.2.2.2 (by omega),Bool.or_true]
theorem Bd {a b:Int} {l:List aj} (h1:∀u∈l,¬u.1=a) (h2:∀u∈l,fG u=true):pN a b l=l:=by
 unfold pN;have e:l.map (uS a b)=l:=by
  conv=>rhs;rw[← List.map_id l]
  exact List.map_congr_left fun u hu=>by unfold uS;rw[if_neg (h1 u hu)];rfl
 rw[e,List.filter_eq_self];exact fun u hu=>Tm (h2 u hu)
theorem qY:∀ {l:List aj} {e:Int} {j:Nat} {u:aj},hP e l=true→l[j]?=some u→hP (u.1+u.2.1) (l.drop (j+1))=true
 |[],_,_,_,_,h=>by simp at h
 |x::l,e,0,u,hm,h=>by simp only[List.getElem?_cons_zero,Option.some.injEq] at h;subst h;unfold hP at hm;simp only[Bool.and_eq_true] at hm;exact hm.2
 |x::l,e,j+1,u,hm,h=>by rw[List.getElem?_cons_succ] at h;unfold hP at hm;simp only[Bool.and_eq_true] at hm;rw[List.drop_succ_cons];exact qY hm.2 h
theorem Tn {a b:Int} {l:List aj} {j:Nat} {u:aj} (hm:dD l=true) (hj:l[j]?=some u) (hu:u.1=a) (hb:∀v∈l.take j,¬v.1=a):pN a b l=l.take j++(if sS (uS a b u)=true then [uS a b u] else [])++l.drop (j+1):=by
 have hok:∀v∈l,fG v=true:=fun v hv=>gV hm hv;have hlt:=(List.getElem?_eq_some_iff.1 hj).1;have e:l=l.take j++u::l.drop (j+1):=by have h1:=List.drop_eq_getElem_cons hlt;rw[(List.getElem?_eq_some_iff.1 hj).2] at h1;rw[← h1,List.take_append_drop]
 have h2:∀v∈l.drop (j+1),¬v.1=a:=fun v hv he=>by have h3:=Bc (qY hm hj) v hv;have h4:=bW.1 (hok u (List.mem_of_getElem? hj));omega
 have g1:=Bd (b:=b) hb (fun v hv=>hok v (List.mem_of_mem_take hv));have g2:=Bd (b:=b) h2 (fun v hv=>hok v (List.mem_of_mem_drop hv))
 conv=>lhs;rw[e]
 unfold pN at g1 g2 ⊢;rw[List.map_append,List.map_cons,List.filter_append,List.filter_cons,g1,g2]
 split <;> simp
theorem eF {w:World} {B k n:Nat} {e:TypeId} {v:Value} {xs:List Value} (h:w.ownsRow B e k v n xs):∃p c,v=.slice p n c:=by
 rcases aK h with ⟨hv,hn,_⟩|⟨g,cap,hv⟩
 ·exact ⟨none,0,by rw[hv,hn]⟩
 ·exact ⟨_,cap,hv⟩
structure cZ (w:World) (B:Nat) (d:aL) (vk vc vp:Value):Prop where
 kept:w.ownsRow B 9 1 vk d.kept.length (bn lg d.kept)
 cache:w.ownsRow B 47 2 vc d.cache.length (bn lG d.cache)
 keep:w.ownsRow B 4 1 vp d.keep.length (bS d.keep)
 bd:X2 d
theorem pR {α:Type} {F:Nat→Prop} {w:World} {B:Nat} {e:TypeId} {v:Value} {n k:Nat} {f:α→List Value} {l:List α} (hf:∀x,(f x).length=k) (hn:l.length=n) (h:w.ownsRow B e k v n (bn f l)) (hF:∀q,B≤q→F q):dx (mask F w) v k f l:=by
 rcases aK h with ⟨hv,hz,_⟩|⟨g,cap,hv⟩
 ·have hl:l=[]:=List.eq_nil_of_length_eq_zero (by omega)
  subst hl;rw[hv];exact lC _ _ _
 ·have hg:=(h.lt g (by rw[hv];rfl)).1
  obtain ⟨p,c,e1,h2,h3,h4,h5⟩:=kz hf hn h;refine ⟨p,c,e1,h2,h3,h4,fun i x hx=>?_⟩;obtain ⟨g',o',e2,hc⟩:=h5 i x hx;have:g'=g:=by rw[hv,e2] at e1;injection e1 with e1 _ _;injection e1 with e1;injection e1 with e1;exact e1.symm
  subst this;exact ⟨g',o',e2,fun j u hj=>ar.2 ⟨hF _ hg,hc j u hj⟩⟩
theorem vn {F:Nat→Prop} {w:World} {B:Nat} {e:TypeId} {v:Value} {n:Nat} {l:List Bool} (hn:l.length=n) (h:w.ownsRow B e 1 v n (bS l)) (hF:∀q,B≤q→F q):dA (mask F w) v l:=by
 rcases aK h with ⟨hv,hz,_⟩|⟨g,cap,hv⟩
 ·have hl:l=[]:=List.eq_nil_of_length_eq_zero (by omega)
  subst hl;rw[hv];exact iJ _
 ·have hg:=(h.lt g (by rw[hv];rfl)).1
  obtain ⟨p,c,e1,h2,h3,h4,h5⟩:=eI hn h;refine ⟨p,c,e1,h2,h3,h4,fun i x hx=>?_⟩;obtain ⟨g',o',e2,hc⟩:=h5 i x hx;have:g'=g:=by rw[hv,e2] at e1;injection e1 with e1 _ _;injection e1 with e1;injection e1 with e1;exact e1.symm
  subst this;exact ⟨g',o',e2,ar.2 ⟨hF _ hg,hc⟩⟩
theorem cZ.at {F:Nat→Prop} {w:World} {B:Nat} {d:aL} {vk vc vp:Value} (h:cZ w B d vk vc vp) (hF:∀q,B≤q→F q):bP (mask F w) d vk vc vp:=
 ⟨pR ji rfl h.kept hF,pR mC rfl h.cache hF,vn rfl h.keep hF,h.bd⟩
theorem cZ.low {w w':World} {B:Nat} {d:aL} {vk vc vp:Value} (h:cZ w B d vk vc vp) (hb:Bw w w'):cZ w' B d vk vc vp:=
 ⟨aM h.kept hb,aM h.cache hb,aM h.keep hb,h.bd⟩
theorem cZ.mono {w:World} {B B':Nat} {d:aL} {vk vc vp:Value} (h:cZ w B d vk vc vp) (hb:B'≤B):cZ w B' d vk vc vp:=
 ⟨bC hb h.kept,bC hb h.cache,bC hb h.keep,h.bd⟩
theorem jK {w:World} {B k n b j:Nat} {e:TypeId} {v u:Value} {xs:List Value} (h:w.ownsRow B e k v n xs) (hb:b<B):(w.setCell ⟨b,j,none⟩ u).ownsRow B e k v n xs:=
 h.kept (aw w b j u) (by
  rcases aK h with ⟨hv,_⟩|⟨g,cap,hv⟩
  ·left;rw[hv];rfl
  ·right;intro e
   have:=(h.lt g (by rw[hv];rfl)).1;rw[hv] at e;simp only[Value.ownBlock,Option.some.injEq] at e;omega)
theorem cZ.bk {w:World} {B b j:Nat} {d:aL} {vk vc vp u:Value} (h:cZ w B d vk vc vp) (hb:b<B):cZ (w.setCell ⟨b,j,none⟩ u) B d vk vc vp:=
 ⟨jK h.kept hb,jK h.cache hb,jK h.keep hb,h.bd⟩
def Ty (B:Nat) (w:World) (d:aL) (e:Ending) (w':World):Prop:=∃vk vc vp,e=.returned (eE d vk vc vp)∧cZ w' B d vk vc vp∧Bw w w'
theorem LF (d:aL) (vk vc vp:Value) (w:World) (h:bP w d vk vc vp) (hl:d.kept.length≤1000000∧d.cache.length≤1000000∧d.keep.length≤1000000):Calls Tryz.prog 135 #[eE d vk vc vp] w (Ty w.heap.size w d):=by
 obtain ⟨pk,ck,rfl,_,_,_,hk⟩:=h.kept.src ji uN (by decide);obtain ⟨pc,cc,rfl,_,_,_,hc⟩:=h.cache.src mC uO (by decide);obtain ⟨pp,cp,rfl,_,hp⟩:=h.keep.src;have Gu:=aa (fun (W:World) (hb:Bw w W)=>sX pk d.kept.length ck _ W (hk.stays hb) (by omega));have Mz:=aa (fun (W:World) (hb:Bw w W)=>sY pc d.cache.length cc _ W (hc.stays hb) (by omega));have UI:=aa (fun (W:World) (hb:Bw w W)=>rr pp d.keep.length cp _ W (hp.stays hb) (by omega));have fL:=aa h.bd;obtain ⟨kept,cache,ah,keep,dead⟩:=d;simp only at Gu Mz UI ⊢;clear h hk hc hp hl;unfold eE;simp only;obtain ⟨N,hN⟩:=aG kept.length;obtain ⟨M,hM⟩:=aG cache.length;obtain ⟨L,hL⟩:=aG keep.length;have HN:=aa hN;have HM:=aa hM;have HL:=aa hL;rw[hN] at Gu;rw[hM] at Mz;rw[hL] at UI;rw[hN,hM,hL];clear hN hM hL;obtain ⟨W1,hW1⟩:=aG ((w.alloc (.cells #[.slice pk N ck,.slice pc M cc,.int .i64 ah,.slice pp L cp,.bool dead] 26)).alloc (.cells #[.slice none 0 0,.slice none 0 0,.int .i64 0,.slice none 0 0,.bool false] 26));have aZ:=aa (show Bw w W1 by rw[← hW1];exact (aq).alloc (by simp) _);have aU:=aa (show aJ W1 w.heap.size [.slice pk N ck,.slice pc M cc,.int .i64 ah,.slice pp L cp,.bool dead] by rw[← hW1];exact (aJ.new w _ _).alloc _);have Ck:=aa (show aJ W1 (w.heap.size+1) [.slice none 0 0,.slice none 0 0,.int .i64 0,.slice none 0 0,.bool false] by rw[← hW1];have:=aJ.new (w.alloc (.cells #[.slice pk N ck,.slice pc M cc,.int .i64 ah,.slice pp L cp,.bool dead] 26)) [.slice none 0 0,.slice none 0 0,.int .i64 0,.slice none 0 0,.bool false] 26;rw[World.size_alloc] at this;exact this);have Ki:=aa (show W1.heap.size=w.heap.size+2 by rw[← hW1];simp);have ed:=aa hW1;clear hW1;go_enter Tryz.func135,Tryz.ntmps135;go_upto_region 1 with fail;rw[ed.o];clear ed;obtain ⟨x0,x1,x2,x3,x4⟩:=aU.five;go_upto_region 2 with (go_at_call 68;(with_reducible refine (Gu.o _ aZ.o).mono ?_);rintro e w2 ⟨v2,rfl,ho,hb⟩;obtain ⟨p2,c2,rfl⟩:=eF ho;have nM:=aa ho;have bU:=aa hb;have dY:=aa (aU.o.below hb);have js:=aa (Ck.o.below hb);clear hb ho;have y0:=dY.o.cell (j:=0) rfl;have y1:=dY.o.free 0);obtain ⟨W2,hW2⟩:=aG (w2.setCell ⟨w.heap.size,0,none⟩ (.slice p2 N c2));have kK:=aa (show aJ W2 w.heap.size [.slice p2 N c2,.slice pc M cc,.int .i64 ah,.slice pp L cp,.bool dead] by rw[← hW2];exact dY.set 0 _);have uz:=aa (show aJ W2 (w.heap.size+1) [.slice none 0 0,.slice none 0 0,.int .i64 0,.slice none 0 0,.bool false] by rw[← hW2];exact js.far (by omega) _ _);have HK3:=aa (show W2.ownsRow (w.heap.size+2) 9 1 (.slice p2 N c2) N (bn lg kept) by rw[← hW2];have h:=nM.o;rw[Ki.o] at h;exact jK h (by omega));have dG:=aa (show Bw w W2 by rw[← hW2];exact (ak aZ bU).setCell (p:=⟨w.heap.size,0,none⟩) aT _);rw[hW2];clear hW2 x0 x1 x2 x3 x4 y0 y1;obtain ⟨x0,x1,x2,x3,x4⟩:=kK.five;have Lr:=aa (show w.heap.size+2≤W2.heap.size by have:=uz.lt;omega)
 go_upto_region 3 with (go_at_call 69;(with_reducible refine (Mz.o _ dG.o).mono ?_);rintro e w4 ⟨v2,rfl,ho,hb⟩;obtain ⟨p4,c4,rfl⟩:=eF ho;have pP:=aa (bC Lr.o ho);have gz:=aa hb;have jQ:=aa (kK.o.below hb);have Hy:=aa (uz.o.below hb);clear hb ho;have y0:=jQ.o.cell (j:=1) rfl;have y1:=jQ.o.free 1);obtain ⟨W4,qu⟩:∃W2,w4.setCell ⟨w.heap.size,1,none⟩ (.slice p4 M c4)=W2:=⟨_,rfl⟩
 have fQ:=aa (show aJ W4 w.heap.size [.slice p2 N c2,.slice p4 M c4,.int .i64 ah,.slice pp L cp,.bool dead] by rw[← qu];exact jQ.set 1 _);have oG:=aa (show aJ W4 (w.heap.size+1) [.slice none 0 0,.slice none 0 0,.int .i64 0,.slice none 0 0,.bool false] by rw[← qu];exact Hy.far (by omega) _ _);have VB:=aa (show W4.ownsRow (w.heap.size+2) 9 1 (.slice p2 N c2) N (bn lg kept) by rw[← qu];exact jK (aM HK3 gz) (by omega));have R5:=aa (show W4.ownsRow (w.heap.size+2) 47 2 (.slice p4 M c4) M (bn lG cache) by rw[← qu];exact jK pP (by omega));have bA:=aa (show Bw w W4 by rw[← qu];exact (ak dG gz).setCell (p:=⟨w.heap.size,1,none⟩) aT _);rw[qu];clear qu x0 x1 x2 x3 x4 y0 y1;obtain ⟨x0,x1,x2,x3,x4⟩:=fQ.five;have UN:=aa (show w.heap.size+2≤W4.heap.size by have:=oG.lt;omega);go_upto_region 4 with (go_at_call 70;(with_reducible refine (UI.o _ bA.o).mono ?_);rintro e w6 ⟨v2,rfl,ho,hb⟩;obtain ⟨p6,c6,rfl⟩:=eF ho;have FL:=aa (bC UN.o ho);have cQ:=aa hb;have kB:=aa (fQ.o.below hb);have rU:=aa (oG.o.below hb);clear hb ho;have y0:=kB.o.cell (j:=3) rfl;have y1:=kB.o.free 3);obtain ⟨W6,oQ⟩:∃W2,w6.setCell ⟨w.heap.size,3,none⟩ (.slice p6 L c6)=W2:=⟨_,rfl⟩
 have ly:=aa (show aJ W6 w.heap.size [.slice p2 N c2,.slice p4 M c4,.int .i64 ah,.slice p6 L c6,.bool dead] by rw[← oQ];exact kB.set 3 _);have EZ:=aa (show aJ W6 (w.heap.size+1) [.slice none 0 0,.slice none 0 0,.int .i64 0,.slice none 0 0,.bool false] by rw[← oQ];exact rU.far (by omega) _ _);have pY:=aa (show cZ W6 (w.heap.size+2) ⟨kept,cache,ah,keep,dead⟩ (.slice p2 N c2) (.slice p4 M c4) (.slice p6 L c6) by
  rw[← oQ];refine cZ.bk ⟨?_,?_,?_,fL⟩ (by omega)
  ·rw[HN.o];exact aM VB cQ.o
  ·rw[HM.o];exact aM R5 cQ.o
  ·rw[HL.o];exact FL)
 have fg:=aa (show Bw w W6 by rw[← oQ];exact (ak bA cQ).setCell (p:=⟨w.heap.size,3,none⟩) aT _);rw[oQ];clear oQ x0 x1 x2 x3 x4 y0 y1;obtain ⟨x0,x1,x2,x3,x4⟩:=ly.five;obtain ⟨z0,z1,z2,z3,z4⟩:=EZ.five;obtain ⟨f0,f1,f2,f3,f4⟩:=EZ.ie;go_wp2_with fail;have wI:=aa (((((EZ.set 0 (.slice p2 N c2)).set 1 (.slice p4 M c4)).set 2 (.int .i64 ah)).set 3 (.slice p6 L c6)).set 4 (.bool dead));simp only[List.set_cons_zero,List.set_cons_succ] at wI;obtain ⟨g0,g1,g2,g3,g4⟩:=wI.five;refine au (v:=.agg #[.slice p2 N c2,.slice p4 M c4,.int .i64 ah,.slice p6 L c6,.bool dead]) ⟨_,_,_,rfl,cZ.mono (((((pY.bk (by omega)).bk (by omega)).bk (by omega)).bk (by omega)).bk (by omega)) (by omega),((((fg.setCell (p:=⟨w.heap.size+1,0,none⟩) (Nat.le_succ _) _).setCell (p:=⟨w.heap.size+1,1,none⟩) (Nat.le_succ _) _).setCell (p:=⟨w.heap.size+1,2,none⟩) (Nat.le_succ _) _).setCell (p:=⟨w.heap.size+1,3,none⟩) (Nat.le_succ _) _).setCell (p:=⟨w.heap.size+1,4,none⟩) (Nat.le_succ _) _⟩ ?_;simp[results,Tryz.results135,go_sem,g0,g1,g2,g3,g4]
theorem vq {w:World} {p:Option Addr} {n c:Nat} {l:List aj} (h:dB w (.slice p n c) l):n=l.length∧iN w p n 4 (aI l):=by
 obtain ⟨p',c',h1,h2,h3,h4⟩:=h;injection h1 with e1 e2 e3;subst e1;subst e2;refine ⟨rfl,nA l,fun hp=>?_,jo l,fun ad had j u hj=>?_⟩
 ·cases l with
  |nil=>rfl
  |cons x l=>obtain ⟨g,o,e,_⟩:=h4 0 x rfl;rw[hp] at e;cases e
 ·have hlt:=(List.getElem?_eq_some_iff.1 hj).1
  rw[nA] at hlt;have hi:j/4<l.length:=by omega
  obtain ⟨g,o,e,k0,k1,k2,k3⟩:=h4 (j/4) _ (List.getElem?_eq_getElem hi);rw[had] at e;injection e with e;subst e;rw[nI];have hr:j%4<4:=Nat.mod_lt _ (by omega);have hx:(cO l[j/4])[j%4]?=some ((cO l[j/4])[j%4]'(by unfold cO;exact hr)):=List.getElem?_eq_getElem _;have hg:=iB l (j/4) _ (j%4) _ (List.getElem?_eq_getElem hi) hx;rw[Nat.div_add_mod' j 4,hj] at hg;injection hg with hg;rw[hg];have ej:o+j=o+j/4*4+j%4:=by omega
  rw[ej];rcases (show j%4=0∨j%4=1∨j%4=2∨j%4=3 by omega) with h|h|h|h
  ·simp only[h];exact k0
  ·simp only[h];exact k1
  ·simp only[h];exact k2
  ·simp only[h];exact k3
theorem I7 (l:List aj) (n:Int) (hn:aP n) (v1:Value) (w:World) (h1:dB w v1 l):Calls Tryz.prog 76 #[v1,.int .i64 n] w fun e w'=>∃v,e=.returned (.tuple #[v,.int .i64 (gB l n).2.1,.bool (gB l n).2.2])∧w'.ownsRow w.heap.size 52 4 v (gB l n).1.length (aI (gB l n).1)∧Bw w w':=by
 have dS:=aa (oz l v1 w h1);have Y6:=aa (fun (W:World) (hb:Bw w W)=>Pe l v1 W (h1.keep (af hb)));have H1:=aa (fun (W:World) (hb:Bw w W)=>h1.keep (af hb));obtain ⟨p,cp,rfl,a1,a2,ha⟩:=h1;have HA:=aa ha;obtain ⟨N,hN⟩:=aG l.length;rw[hN] at a1 dS Y6 H1;rw[hN];have hlc:=fK (n:=N) a2;have HN:=aa hN;clear ha hN a1 a2;obtain ⟨m,hm⟩:=aG (dD l);have HM:=aa hm;rw[hm] at dS;clear hm;obtain ⟨r,hr⟩:=aG (gB l n);have HR:=aa hr;rw[hr];unfold gB at HR;clear hr;have HI:=aa hn;unfold aP at hn;go_enter Tryz.func76,Tryz.ntmps76;cases m with
 |false=>have HE:=aa (show r=([],0,false) by rw[← HR.o,if_neg (fun h=>by rw[HM.o] at h;exact absurd h.1 (by simp))]);go_wp2_with (go_at_call 119;(with_reducible refine dS.o.mono ?_);rintro e w5 ⟨rfl,aR⟩;have bA:=aa aR;clear aR);refine au (v:=.tuple #[.slice none 0 0,.int .i64 0,.bool false]) ⟨.slice none 0 0,by rw[HE.o],by rw[HE.o];exact ⟨rfl,.inl ⟨rfl,rfl⟩⟩,bA⟩ ?_;simp[results,Tryz.results76,go_sem]
 |true=>
  by_cases kV:n<1∨8<n
  case pos=>
   have HE:=aa (show r=([],0,false) by rw[← HR.o,if_neg (by omega)]);have hc:n<1∨(¬n<1∧8<n):=by omega
   clear kV;rcases hc with c1|⟨c1,c2⟩
   ·have d1:decide (n<1)=true:=by simpa using c1
    go_wp2_with (go_at_call 119;(with_reducible refine dS.o.mono ?_);rintro e w5 ⟨rfl,aR⟩;have bA:=aa aR;clear aR);refine au (v:=.tuple #[.slice none 0 0,.int .i64 0,.bool false]) ⟨.slice none 0 0,by rw[HE.o],by rw[HE.o];exact ⟨rfl,.inl ⟨rfl,rfl⟩⟩,bA⟩ ?_;simp[results,Tryz.results76,go_sem]
   ·have d1:decide (n<1)=false:=by simpa using c1
    have d2:decide (8<n)=true:=(by simpa using c2);go_wp2_with (go_at_call 119;(with_reducible refine dS.o.mono ?_);rintro e w5 ⟨rfl,aR⟩;have bA:=aa aR;clear aR);refine au (v:=.tuple #[.slice none 0 0,.int .i64 0,.bool false]) ⟨.slice none 0 0,by rw[HE.o],by rw[HE.o];exact ⟨rfl,.inl ⟨rfl,rfl⟩⟩,bA⟩ ?_;simp[results,Tryz.results76,go_sem]
  have c1:¬n<1:=by omega
  have c2:¬8<n:=by omega
  have d1:decide (n<1)=false:=by simpa using c1
  have d2:decide (8<n)=false:=by simpa using c2
  clear kV;have HUT:=aa (show ko l=fP l by unfold ko;rw[if_pos HM.o]);obtain ⟨a,ha⟩:=aG (fH (fP l) n);have js:=aa (show (if a<0 then ([],0,false) else (iK a n l,a,true))=r by
   have h:=HR.o;rw[if_pos ⟨HM,by omega,by omega⟩,ha] at h;exact h)
  have HAF:=aa ha;clear ha;go_upto_region 4 with (first|(go_at_call 119;(with_reducible refine dS.o.mono ?_);rintro e w5 ⟨rfl,aR⟩;have bA:=aa aR;clear aR)|(go_at_call 126;(with_reducible refine (Y6.o _ bA.o).mono ?_);rintro e w6 ⟨vu,rfl,hru,cW⟩;have cQ:=aV bA cW;have KD:=aa (by have h:=Lx (ko l) n vu w6 (eI rfl hru) (by rw[HUT.o,kA];omega);rw[HUT.o,HAF.o] at h;exact h);clear cW hru)|(go_at_call 125;(with_reducible refine KD.o.mono ?_);rintro e w7 ⟨rfl,dO⟩;have fg:=aV cQ dO;clear dO));by_cases hneg:a<0
  case pos=>
   have HE:=aa (show r=([],0,false) by rw[← js.o,if_pos hneg]);have d3:decide (a<0)=true:=by simpa using hneg
   go_wp2_with fail;refine au (v:=.tuple #[.slice none 0 0,.int .i64 0,.bool false]) ⟨.slice none 0 0,by rw[HE.o],by rw[HE.o];exact ⟨rfl,.inl ⟨rfl,rfl⟩⟩,fg⟩ ?_;simp[results,Tryz.results76,go_sem]
  have HE:=aa (show r=(iK a n l,a,true) by rw[← js.o,if_neg hneg]);have S1:=aa (DD HM HAF (by omega));have d3:decide (a<0)=false:=by simpa using hneg
  have yZ:=aa (show N≤16 by rw[← HN.o];exact fY HM);go_wp2_with fail;clear c1 c2 d1 d2 d3 hneg;go_loopw [8] (fun i wr=>∃k:Nat,k≤N∧i=.int .i64 k∧(∀(j:Nat) u,j<k→l[j]?=some u→u.1<a)∧wr=w7) (fun i _=>N-(intOf i).toNat)
  case atStart=>exact ⟨0,dQ,rfl,fun j _ hj=>by omega,rfl⟩
  case round=>
   obtain ⟨k,hk,rfl,hall,rfl⟩:=hrel;have ez:=aa hall;clear hall;by_cases hgo:k<N∧∃u,l[k]?=some u∧u.1<a
   case pos=>
    obtain ⟨hlt,⟨x,y,z,d⟩,hs,BZ⟩:=hgo;simp only at BZ;have fO:(k:Int)<(N:Int):=by omega
    have WB:decide (k<N)=true:=decide_eq_true hlt;obtain ⟨g,o,rfl,x1⟩:=HA.o k _ hs;obtain ⟨r0,_,_,_⟩:=x1.keep (af fg);simp only at r0;have hd:decide (x<a)=true:=decide_eq_true BZ;have HS:=aa hs;have HXA:=aa BZ;clear hs x1 BZ;go_wp2_with fail;go_roundw
    case rel=>
     refine ⟨k+1,by omega,by go_num,fun j u hj hu=>?_,by first|rfl|trivial⟩;by_cases e:j=k
     ·subst e;rw[HS.o] at hu;cases hu;exact HXA.o
     ·exact ez j u (by omega) hu
    case measure=>simp[intOf];omega
   case neg=>
    have OM:=aa (show iK a n l=l.take k++[(a,n,1,false)]++l.drop k from Bb S1.1 ez (fun u hu=>by
     have hlt:k<N:=by rw[← HN.o];exact (List.getElem?_eq_some_iff.1 hu).1
     exact Classical.byContradiction fun h=>hgo ⟨hlt,u,hu,by omega⟩) (by rw[HN.o];exact hk))
    have tG:=aa (fun (W:World) (hb:Bw w W)=>kM p N cp (aI l) W (vq (H1 W hb)).2 (by have:=yZ.o;omega));by_cases hlt:k<N
    case pos=>
     have fO:(k:Int)<(N:Int):=(by omega);have WB:decide (k<N)=true:=decide_eq_true hlt;obtain ⟨⟨x,y,z,d⟩,hs⟩:∃u,l[k]?=some u:=⟨_,List.getElem?_eq_getElem (by rw[HN.o];exact hlt)⟩
     obtain ⟨g,o,rfl,x1⟩:=HA.o k _ hs;obtain ⟨r0,_,_,_⟩:=x1.keep (af fg);simp only at r0;have hd:decide (x<a)=false:=decide_eq_false (fun h=>hgo ⟨hlt,_,hs,h⟩);clear hs x1 hgo;go_upto_region 9 with fail;go_wp2_with (first|(go_at_call 78;(with_reducible refine (tG.o _ fg.o).mono ?_);(rintro e w8 ⟨v8,rfl,ho,hb⟩);(obtain ⟨p8,c8,rfl⟩:=eF ho);(have KY:=aa (rq wr.heap.size N k w8.heap.size _ (aI l) (cO (a,n,1,false)) (w8.alloc (.cells #[.int .i64 a,.int .i64 n,.int .i64 1,.bool false] 52)) (ho.alloc _) (World.alloc_heap_new w8 _) (fun e=>by have:=(ho.lt _ e).2;omega) rfl (by intro u hu;unfold cO at hu;simp only[List.mem_cons,List.not_mem_nil,or_false] at hu;rcases hu with rfl|rfl|rfl|rfl <;> rfl) (jo l) (by have:=yZ.o;omega) (by have:=hb.size;simp;omega) (by omega)));(have RA:=aa (fun g hg=>(ho.lt g hg).1));(have km:=aa (show Bw w (w8.alloc (.cells #[.int .i64 a,.int .i64 n,.int .i64 1,.bool false] 52)) from ak (ak fg.o hb) (aq)));(clear hb ho))|(go_at_call 127;(with_reducible refine KY.o.mono ?_);(rintro e G7 ⟨v10,rfl,ho,hg⟩);(obtain ⟨YJ,c10,rfl⟩:=eF ho);(have Ih:=aa ho);(have tN:=aa (show Bw w G7 from km.o.grown hg km.o.size (fun b hb=>Nat.le_trans fg.o.size (RA.o b hb))));(clear ho hg)));refine au (v:=.tuple #[.slice YJ (N+1) c10,.int .i64 a,.bool true]) ⟨.slice YJ (N+1) c10,by rw[HE.o],?_,tN⟩ ?_
     ·rw[HE.o]
      simp only;have h:=Ih.o;rw[lO,lR,← yz (a,n,1,false),kX,kX] at h;rw[OM.o];have hl:(l.take k++[(a,n,1,false)]++l.drop k).length=N+1:=by have:=HN.o;simp only[List.length_append,List.length_take,List.length_drop,List.length_cons,List.length_nil];omega
      rw[hl];exact bC fg.size h
     simp[results,Tryz.results76,go_sem]
    case neg=>
     obtain rfl:k=N:=by omega
     have WB:decide (k<k)=false:=decide_eq_false (by omega);have as4:decide ((k:Int)<(k:Int))=false:=decide_eq_false (by omega);clear hgo;go_upto_region 9 with fail;go_wp2_with (first|(go_at_call 78;(with_reducible refine (tG.o _ fg.o).mono ?_);(rintro e w8 ⟨v8,rfl,ho,hb⟩);(obtain ⟨p8,c8,rfl⟩:=eF ho);(have KY:=aa (rq wr.heap.size k k w8.heap.size _ (aI l) (cO (a,n,1,false)) (w8.alloc (.cells #[.int .i64 a,.int .i64 n,.int .i64 1,.bool false] 52)) (ho.alloc _) (World.alloc_heap_new w8 _) (fun e=>by have:=(ho.lt _ e).2;omega) rfl (by intro u hu;unfold cO at hu;simp only[List.mem_cons,List.not_mem_nil,or_false] at hu;rcases hu with rfl|rfl|rfl|rfl <;> rfl) (jo l) (by have:=yZ.o;omega) (by have:=hb.size;simp;omega) (by omega)));(have RA:=aa (fun g hg=>(ho.lt g hg).1));(have km:=aa (show Bw w (w8.alloc (.cells #[.int .i64 a,.int .i64 n,.int .i64 1,.bool false] 52)) from ak (ak fg.o hb) (aq)));(clear hb ho))|(go_at_call 127;(with_reducible refine KY.o.mono ?_);(rintro e G7 ⟨v10,rfl,ho,hg⟩);(obtain ⟨YJ,c10,rfl⟩:=eF ho);(have Ih:=aa ho);(have tN:=aa (show Bw w G7 from km.o.grown hg km.o.size (fun b hb=>Nat.le_trans fg.o.size (RA.o b hb))));(clear ho hg)));refine au (v:=.tuple #[.slice YJ (k+1) c10,.int .i64 a,.bool true]) ⟨.slice YJ (k+1) c10,by rw[HE.o],?_,tN⟩ ?_
     ·rw[HE.o]
      simp only;have h:=Ih.o;rw[lO,lR,← yz (a,n,1,false),kX,kX] at h;rw[OM.o];have hl:(l.take k++[(a,n,1,false)]++l.drop k).length=k+1:=by have:=HN.o;simp only[List.length_append,List.length_take,List.length_drop,List.length_cons,List.length_nil];omega
      rw[hl];exact bC fg.size h
     simp[results,Tryz.results76,go_sem]
def FN (lo b3 hi:Nat):Nat→Prop:=fun q=>lo+2≤q∧q<hi∧q≠b3
structure BA (w:World) (a b c:Value) (ks vs:List Int) (kids:List ag) (k:Nat) (b3:Nat) (x y z:Value) (wr:World):Prop where
 box:cN wr b3 x y z
 arg:aJ wr w.heap.size [a,b,c]
 res:aJ wr (w.heap.size+1) [.slice none 0 0,.slice none 0 0,.slice none 0 0]
 hb:w.heap.size+2≤b3
 tree:gj wr (FN w.heap.size b3 wr.heap.size) (.mk ks vs (kids.take k)) x y z
 below:Bw w wr
theorem Fp (W:World) (B n:Nat) (v:Value) (xs:List Value) {pa pb pc:Option Addr} {na ca nb cb nc cc:Nat} (hown:W.ownsRow B 73 3 v n xs) (hn:n≤1000000) (hB:B≤W.heap.size) :
 ∃g cap w2,(Builtin.append_ #[71,71] 71 #[v,.slice (some ⟨W.heap.size,0,none⟩) 1 1]).run Tryz.prog (W.alloc (.cells #[.slice pa na ca,.slice pb nb cb,.slice pc nc cc] 73))=.ok (.slice (some ⟨g,0,none⟩) (n+1) cap) w2 ∧
  w2.ownsRow B 73 3 (.slice (some ⟨g,0,none⟩) (n+1) cap) (n+1) (xs++[.slice pa na ca,.slice pb nb cb,.slice pc nc cc])∧(W.alloc (.cells #[.slice pa na ca,.slice pb nb cb,.slice pc nc cc] 73)).grownBy w2 v.ownBlock∧((Value.slice (some ⟨g,0,none⟩) (n+1) cap).ownBlock=v.ownBlock∨(Value.slice (some ⟨g,0,none⟩) (n+1) cap).ownBlock=some (W.heap.size+1)):=by
 obtain ⟨i0,iP,hz0,hz1,hz2⟩:=info_parts QU;obtain ⟨v',w',r1,r2,r3,_,r5⟩:=run_append_own_at (P:=Tryz.prog) (W.alloc (.cells #[.slice pa na ca,.slice pb nb cb,.slice pc nc cc] 73)) B 71 71 73 i0 _ 3 72 Tryz.underlying71 iP hz0 hz1 hz2 rfl (by decide) v n _ (hown.alloc _) ⟨W.heap.size,0,none⟩ 1 1 [.slice pa na ca,.slice pb nb cb,.slice pc nc cc] rfl (by
  intro j u hu;rw[jS,World.cell?_alloc_at _ _ _ _ rfl];rcases j with _|_|_|j
  ·exact hu
  ·exact hu
  ·exact hu
  ·simp at hu) (by
  intro u hu;simp only[List.mem_cons,List.not_mem_nil,or_false] at hu;rcases hu with rfl|rfl|rfl <;> rfl) (by unfold maxLen;omega) (by omega) (by simp;omega)
 obtain ⟨g,cap,rfl⟩:=ownsRow_succ r2;exact ⟨g,cap,w',r1,r2,r3,by rw[World.size_alloc] at r5;exact r5⟩
theorem YO {W:World} {b n k B:Nat} {x y z v:Value} {e:TypeId} {xs:List Value} (h:cN W b x y z) (hr:W.ownsRow B e k v n xs) (he:e≠73):v.ownBlock≠some b:=by
 intro e';rcases aK hr with ⟨hv,_,_⟩|⟨g,cap,hv⟩
 ·rw[hv] at e';cases e'
 ·subst hv
  obtain ⟨cur,hc,_⟩:=bp hr;have:g=b:=by simpa [Value.ownBlock] using e'
  subst this;rw[show W.heap[g]?=_ from h] at hc;injection hc with hc;injection hc with _ h2 _;exact he h2.symm
theorem rE {W W':World} {B B' k k' n n':Nat} {e e':TypeId} {u v:Value} {xs ys:List Value} (h:W.ownsRow B e k u n xs) (h':W'.ownsRow B' e' k' v n' ys) (hl:W.heap.size≤B'):eD u v:=by
 rcases aK h with ⟨hu,_,_⟩|⟨g,cap,hu⟩
 ·left;rw[hu];rfl
 ·right;rw[hu]
  intro e;have h1:=(h.lt g (by rw[hu];rfl)).2;have h2:=(h'.lt g (by rw[← e];rfl)).1;omega
theorem ue {w W:World} {B b:Nat} (h:Below B w W) (hb:B≤b) (y0 y1 y2:Value):Below B w (((W.setCell ⟨b,0,none⟩ y0).setCell ⟨b,1,none⟩ y1).setCell ⟨b,2,none⟩ y2):=((h.setCell (p:=⟨b,0,none⟩) hb y0).setCell (p:=⟨b,1,none⟩) hb y1).setCell (p:=⟨b,2,none⟩) hb y2
theorem aJ.agt {W:World} {b b':Nat} {cs:List Value} (h:aJ W b cs) (hne:b'≠b) (y0 y1 y2:Value):aJ (((W.setCell ⟨b',0,none⟩ y0).setCell ⟨b',1,none⟩ y1).setCell ⟨b',2,none⟩ y2) b cs:=((h.far hne 0 y0).far hne 1 y1).far hne 2 y2
theorem pD (W:World) (b:Nat) (y0 y1 y2:Value):W.grownBy (((W.setCell ⟨b,0,none⟩ y0).setCell ⟨b,1,none⟩ y1).setCell ⟨b,2,none⟩ y2) (some b):=aX (aX (aw W b 0 y0) (aw _ b 1 y1)) (aw _ b 2 y2)
theorem D4 {w W:World} {a b c x y u0 u1 u2:Value} {ks vs:List Int} {kids:List ag} {b3:Nat} (hB:Bw w W) (ha:aJ W w.heap.size [a,b,c]) (hr:aJ W (w.heap.size+1) [.slice none 0 0,.slice none 0 0,.slice none 0 0]) (hn:cN W b3 u0 u1 u2) (hb3:w.heap.size+2≤b3)
 (hx:W.ownsRow (w.heap.size+2) 3 1 x ks.length (bB ks)) (hy:W.ownsRow (w.heap.size+2) 3 1 y vs.length (bB vs)) (bx:∀i∈ks,aP i) (bv:∀i∈vs,aP i) (hab:eD x y) :
 BA w a b c ks vs kids 0 b3 x y (.slice none 0 0) (((W.setCell ⟨b3,0,none⟩ x).setCell ⟨b3,1,none⟩ y).setCell ⟨b3,2,none⟩ (.slice none 0 0)):=by
 have hg:=pD W b3 x y (.slice none 0 0);have nx:=YO hn hx (by decide);have ny:=YO hn hy (by decide);have hx2:=hx.kept hg (.inr nx);have NZ:=hy.kept hg (.inr ny);refine ⟨((hn.qI x).zO y).yQ _,ha.agt (by omega) _ _ _,hr.agt (by omega) _ _ _,hb3,?_,ue hB (by omega) _ _ _⟩;rw[List.take_zero];exact gj.leaf (bC dQ hx2) (bC dQ NZ) bx bv hab (fun g e=>⟨(hx2.lt g e).1,(hx2.lt g e).2,fun h=>nx (by rw[e,h])⟩) (fun g e=>⟨(NZ.lt g e).1,(NZ.lt g e).2,fun h=>ny (by rw[e,h])⟩)
theorem PR {w W:World} {a b c x y:Value} {ks vs:List Int} {kids:List ag} (hB:Bw w W) (ha:aJ W w.heap.size [a,b,c]) (hr:aJ W (w.heap.size+1) [.slice none 0 0,.slice none 0 0,.slice none 0 0])
 (hx:W.ownsRow (w.heap.size+2) 3 1 x ks.length (bB ks)) (hy:W.ownsRow (w.heap.size+2) 3 1 y vs.length (bB vs)) (bx:∀i∈ks,aP i) (bv:∀i∈vs,aP i) (hab:eD x y) :
 BA w a b c ks vs kids 0 W.heap.size x y (.slice none 0 0) (W.alloc (.cells #[x,y,.slice none 0 0] 73)):=by
 have hx2:=hx.alloc (.cells #[x,y,.slice none 0 0] 73);have NZ:=hy.alloc (.cells #[x,y,.slice none 0 0] 73);have hl:=hr.lt;refine ⟨cN.new _ _ _ _,ha.alloc _,hr.alloc _,by omega,?_,hB.alloc hB.size _⟩;rw[List.take_zero];exact gj.leaf (bC dQ hx2) (bC dQ NZ) bx bv hab (fun g e=>⟨(hx2.lt g e).1,(hx2.lt g e).2,by have:=(hx.lt g e).2;omega⟩) (fun g e=>⟨(NZ.lt g e).1,(NZ.lt g e).2,by have:=(hy.lt g e).2;omega⟩)
theorem gj.slices {w:World} {F:Nat→Prop} {t:ag} {a b c:Value} (h:gj w F t a b c):∃pa na ca pb nb cb pc nc cc,a=.slice pa na ca∧b=.slice pb nb cb∧c=.slice pc nc cc:=by obtain ⟨h1,h2,h3⟩:=bD.1 h.read;obtain ⟨pa,ca,e1,_⟩:=h1;obtain ⟨pb,cb,e2,_⟩:=h2;obtain ⟨pc,cc,e3,_⟩:=h3;exact ⟨pa,_,ca,pb,_,cb,pc,_,cc,e1,e2,e3⟩
theorem BA.push {w wr W5:World} {a b c x y z:Value} {ks vs:List Int} {kids:List ag} {k b3:Nat} {t:ag} {K:Nat→Prop} {pa pb pc:Option Addr} {na ca nb cb nc cc:Nat} (h:BA w a b c ks vs kids k b3 x y z wr) (hW:Bw wr W5) (aa9:gj W5 K t (.slice pa na ca) (.slice pb nb cb) (.slice pc nc cc))
 (hK:∀q,K q→wr.heap.size≤q∧q<W5.heap.size) (ht:kids[k]?=some t) (hk:k≤1000000) :
 ∃g cap w2,(Builtin.append_ #[71,71] 71 #[z,.slice (some ⟨W5.heap.size,0,none⟩) 1 1]).run Tryz.prog (W5.alloc (.cells #[.slice pa na ca,.slice pb nb cb,.slice pc nc cc] 73))=.ok (.slice (some ⟨g,0,none⟩) (k+1) cap) w2∧cN w2 b3 x y z ∧
  BA w a b c ks vs kids (k+1) b3 x y (.slice (some ⟨g,0,none⟩) (k+1) cap) (w2.setCell ⟨b3,2,none⟩ (.slice (some ⟨g,0,none⟩) (k+1) cap)) ∧
  ∀q,wr.heap.size≤q→q<W5.heap.size→w2.heap[q]?=W5.heap[q]?∧(w2.setCell ⟨b3,2,none⟩ (.slice (some ⟨g,0,none⟩) (k+1) cap)).heap[q]?=W5.heap[q]?:=by
 have hlt:=(List.getElem?_eq_some_iff.1 ht).1;have hl:(kids.take k).length=k:=by rw[List.length_take];omega
 have ht5:=h.tree.kept (aS hW none) (fun q _ e=>by cases e);have hs5:=hW.size;have hb3:=h.box.lt;obtain ⟨xs,hrow,agu⟩:=ht5.push aa9 (fun q hq hf=>by have h1:=(hK q hq).1;have h2:=hf.2.1;omega) (fun q hq=>by
  rcases hq with hq|hq
  ·have:=hq.2.1;omega
  ·exact (hK q hq).2)
 rw[hl] at hrow;have hFz:∀g,z.ownBlock=some g→w.heap.size+2≤g∧g≠b3∧g<wr.heap.size:=by
  cases ht5 with
  |mk F ks vs kids' a b c xs G X ha hb hc ba bb fa fb fc hab hx hk hG J2=>exact fun g e=>⟨(fc g e).1,(fc g e).2.2,(fc g e).2.1⟩
 obtain ⟨g,cap,w2,h1,h2,hgr,kT⟩:=Fp W5 0 k z xs (pa:=pa) (pb:=pb) (pc:=pc) (na:=na) (ca:=ca) (nb:=nb) (cb:=cb) (nc:=nc) (cc:=cc) hrow hk dQ;have hG:W5.grownBy w2 z.ownBlock:=aX (World.grownBy_alloc W5 _ _) hgr;have hzb:some b3≠z.ownBlock:=fun e=>(hFz b3 e.symm).2.1 rfl;have b5:cN W5 b3 x y z:=h.box.below hW;have b2:cN w2 b3 x y z:=(hG.block b3 b5.lt hzb).trans b5;have Xc:=(aw w2 b3 2 (.slice (some ⟨g,0,none⟩) (k+1) cap)).size;have hs2:=hG.size;have hg0:=(h2.lt g rfl).2;have hgb:w.heap.size+2≤g∧g≠b3:=by
  rcases kT with e|e
  ·exact ⟨(hFz g e.symm).1,(hFz g e.symm).2.1⟩
  ·simp only[Value.ownBlock,Option.some.injEq] at e
   have:=h.hb;omega
 refine ⟨g,cap,w2,h1,b2,⟨b2.yQ _,?_,?_,h.hb,?_,?_⟩,fun q h1 h2=>?_⟩
 ·exact ((h.arg.below hW).grown hG (fun e=>by have h9:=hFz _ e.symm;omega)).far (by have:=h.hb;omega) _ _
 ·exact ((h.res.below hW).grown hG (fun e=>by have h9:=hFz _ e.symm;omega)).far (by have:=h.hb;omega) _ _
 ·have hq:=agu w2 (.slice (some ⟨g,0,none⟩) (k+1) cap) (FN w.heap.size b3 (w2.setCell ⟨b3,2,none⟩ (.slice (some ⟨g,0,none⟩) (k+1) cap)).heap.size) hG (by rw[hl];exact h2) (by
   rcases kT with e|e
   ·exact .inl e
   ·exact .inr ⟨_,e,by omega⟩) (fun q hq=>by
   unfold FN;rcases hq with hq|hq
   ·have h1:=hq.1;have h2:=hq.2.1;have h3:=hq.2.2;exact ⟨h1,by omega,h3⟩
   ·have h1:=hK q hq;have:=h.hb;exact ⟨by omega,by omega,by omega⟩) (fun q e=>by
   simp only[Value.ownBlock,Option.some.injEq] at e;subst e;exact ⟨hgb.1,by omega,hgb.2⟩)
  rw[List.take_add_one,ht,Option.toList_some];exact hq.kept (aw w2 b3 2 _) (fun q hq e=>hq.2.2 (Option.some.inj e).symm)
 ·have aR:Bw w W5:=ak h.below hW
  have hb2:Bw w w2:=aR.grown hG (by have:=aR.size;omega) (fun q e=>by have:=hFz q e;omega);exact hb2.setCell (p:=⟨b3,2,none⟩) (by show w.heap.size≤b3;have:=h.hb;omega) _
 ·have e1:=hG.block q h2 (fun e=>by have:=(hFz q e.symm).2.2;omega)
  exact ⟨e1,((aw w2 b3 2 _).block q (by omega) (fun e=>by have:=Option.some.inj e;omega)).trans e1⟩
end Go.Proofs.YtbigkioechkngaaGreat
namespace Go.Proofs.YtbigkioechkngaaGreat
open Go.Stop Go.ChangeShapes Go.WideShapes Go.ChangeAt Go.RowKit
theorem own:ownKnob Tryz.prog.godebug=none:=by kernel_rfl
theorem laidOut:laidOutB Tryz.prog=true:=by kernel_rfl
theorem BS (W:World):laidMetH Tryz.prog [] W:=by show laidMet Tryz.prog [] W;refine ⟨[],?_,List.nodup_nil,fun b off h=>by simp at h⟩;simp[DataW.LaidVars]
theorem kG {n:Int} (h:(Lit.int .i64 n).wf=true) : -9223372036854775808≤n∧n≤9223372036854775807:=BP h
noncomputable def lZ (os:Os):World:=World.holding Tryz.prog os ⟨#[],#[],[]⟩
end Go.Proofs.YtbigkioechkngaaGreat
