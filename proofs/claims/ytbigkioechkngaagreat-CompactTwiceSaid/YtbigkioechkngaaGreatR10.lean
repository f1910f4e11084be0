/- The proof, part 11. -/
import Derived.Test.YtbigkioechkngaaGreatR9
set_option maxRecDepth 100000
set_option maxHeartbeats 8000000
namespace Go.Proofs.YtbigkioechkngaaGreat
open Go.RowKit Tryz
variable {u:List Bool}{s:List UInt8}{d i k n pos:Nat}
structure cm where
 disk:aO
 met:Int
 gen:Int
 aF:Int
 aw:List dx
 tabs:List (List aj)
structure PV where
 k:Value
 c:Value
 p:Value
 v:Value
 t:Value
def eY (p:cm) (v:PV):Value:=.agg #[v.k,v.c,.int .i64 p.disk.ah,v.p,.bool p.disk.dead,.int .i64 p.met,.int .i64 p.gen,.int .i64 p.aF,v.v,v.t]
structure br (w:World) (p:cm) (v:PV):Prop where
 disk:bN w p.disk v.k v.c v.p
 aw:eQ w v.v p.aw
 tabs:dH w v.t p.tabs
 bm:aQ p.met
 bg:aQ p.gen
 ba:aQ p.aF
theorem br.keep {w w':World} {p:cm} {v:PV} (h:br w p v) (hk:dI w w'):br w' p v:=⟨h.disk.keeps hk,h.aw.keep hk,h.tabs.keep hk,h.bm,h.bg,h.ba⟩
def vX (W:World) (b:Nat) (p:cm) (v:PV):Prop:=W.cell? ⟨b,0,none⟩=some v.k∧W.cell? ⟨b,1,none⟩=some v.c∧W.cell? ⟨b,2,none⟩=some (.int .i64 p.disk.ah)∧W.cell? ⟨b,3,none⟩=some v.p∧W.cell? ⟨b,4,none⟩=some (.bool p.disk.dead)∧W.cell? ⟨b,5,none⟩=some (.int .i64 p.met)∧W.cell? ⟨b,6,none⟩=some (.int .i64 p.gen)∧W.cell? ⟨b,7,none⟩=some (.int .i64 p.aF)∧W.cell? ⟨b,8,none⟩=some v.v∧W.cell? ⟨b,9,none⟩=some v.t
theorem vX.below {W W':World} {b:Nat} {p:cm} {v:PV} (h:vX W b p v) (hb:Bw W W'):vX W' b p v:=by obtain ⟨h0,h1,h2,h3,h4,h5,h6,h7,h8,h9⟩:=h;exact ⟨ae hb h0,ae hb h1,ae hb h2,ae hb h3,ae hb h4,ae hb h5,ae hb h6,ae hb h7,ae hb h8,ae hb h9⟩
theorem vX.new (W:World) (p:cm) (v:PV) (T:TypeId):vX (W.alloc (.cells #[v.k,v.c,.int .i64 p.disk.ah,v.p,.bool p.disk.dead,.int .i64 p.met,.int .i64 p.gen,.int .i64 p.aF,v.v,v.t] T)) W.heap.size p v:=⟨by simp,by simp,by simp,by simp,by simp,by simp,by simp,by simp,by simp,by simp⟩
def Ep:cm:=⟨iU,0,0,0,[],[]⟩
noncomputable def cG (p:cm):Bool:=(fZ p.disk&&cI p.tabs)&&decide ((1≤p.met∧p.met≤1000)∧(1≤p.gen∧p.gen<1099511627776)∧(p.aF=0∨p.aF=1))&&decide ((p.disk.kept.length:Int)=2+2*p.met+16*p.tabs.length)&&(match bX p.aw p.tabs.length with|none=>false|some T=>decide (p.tabs.map aP=T))
theorem bO {p:cm}:cG p=true↔fZ p.disk=true∧cI p.tabs=true∧(1≤p.met∧p.met≤1000)∧(1≤p.gen∧p.gen<1099511627776)∧(p.aF=0∨p.aF=1)∧(p.disk.kept.length:Int)=2+2*p.met+16*p.tabs.length∧bX p.aw p.tabs.length=some (p.tabs.map aP):=by
 unfold cG;simp only[Bool.and_eq_true,decide_eq_true_eq];constructor
 ·rintro ⟨⟨⟨⟨h1,h2⟩,h3,h4,h5⟩,h6⟩,h7⟩
  refine ⟨h1,h2,h3,h4,h5,h6,?_⟩;cases hq:bX p.aw p.tabs.length with
  |none=>rw[hq] at h7;cases h7
  |some T=>rw[hq] at h7;simp only[decide_eq_true_eq] at h7;rw[h7]
 ·rintro ⟨h1,h2,h3,h4,h5,h6,h7⟩
  refine ⟨⟨⟨⟨h1,h2⟩,h3,h4,h5⟩,h6⟩,?_⟩;rw[h7];simp
def adw (w:World) (l:List aj) (N:Nat) (v i:Value) (wr:World):Prop:=∃(k m g c:Nat),k≤N∧i=.int .i64 k∧v=.slice (some ⟨g,0,none⟩) m c∧(aP (l.take k)).length=m∧wr.ownsRow w.heap.size 52 4 (.slice (some ⟨g,0,none⟩) m c) m (aI (aP (l.take k)))∧Bw w wr
theorem RY (l:List aj) (hl:l.length≤1000) (v1:Value) (w:World) (h1:dA w v1 l):Calls prog 53 #[v1] w fun e w'=>∃v,e=.returned v∧w'.ownsRow w.heap.size 52 4 v (aP l).length (aI (aP l))∧Bw w w':=by
 obtain ⟨p,cp,rfl,a1,a2,ha⟩:=h1;have HA:=aa ha;obtain ⟨N,hN⟩:=aG l.length;rw[hN] at a1 hl;rw[hN];have hlc:=fG (n:=N) a2;have HN:=aa hN;have Kc:=aa hl;clear ha hN a1 a2 hl;have HOW:=aa (World.ownsRow_made (e:=52) (size:=4) w #[] 0 aT (by unfold maxLen;omega) rfl);have gI:=aa (show Bw w (w.alloc (.cells #[] 52)) from ar);go_enter func53,ntmps53;go_wp2_with fail;go_loopw [3,4] (fun v i wr=>adw w l N v i wr) (fun _ i _=>N-(intOf i).toNat)
 case atStart=>exact ⟨0,0,w.heap.size,0,dO,rfl,rfl,rfl,HOW,gI⟩
 case round=>
  obtain ⟨k,n,g,c,hk,rfl,rfl,TZ,hrow,hb⟩:=hrel;have bU:=aa hrow;have HB:=aa hb;have pY:=aa TZ;clear hrow hb TZ;by_cases hlt:k<N
  case neg=>
   obtain rfl:k=N:=by omega
   have kI:=aa (show aP l=aP (l.take k) by
    rw[List.take_of_length_le (l:=l) (by rw[HN.o];exact aT)])
   go_wp2_with fail;go_ret;refine ⟨_,rfl,?_,HB⟩;rw[kI.o,pY.o];exact bU.o
  case pos=>
  have fN:(k:Int)<(N:Int):=by omega
  obtain ⟨⟨x,y,z,d⟩,hs⟩:∃s,l[k]?=some s:=⟨_,List.getElem?_eq_getElem (by rw[HN.o];omega)⟩
  obtain ⟨gg,o,rfl,x1⟩:=HA.o k _ hs;simp only at x1;have aU:=aa x1;have fX:=aa (Ej hs);have ajp:n≤1000:=by have h3:=GG (l.take k);have h4:(l.take k).length≤k:=List.length_take_le ..;have h5:=pY.o;have h6:=Kc.o;omega
  clear hs x1;obtain ⟨r0,r1,r2,r3⟩:=aU.keep (af HB);by_cases hz:0<z
  ·have hd:decide (0<z)=true:=by simpa using hz
   have Ea:=aa (show aP (l.take (k+1))=aP (l.take k)++[(x,y,z,true)] by rw[fX.o,if_pos hz];rfl);obtain ⟨W1,hW1⟩:=aG (wr.alloc (.cells #[.int .i64 x,.int .i64 y,.int .i64 z,.bool d] 52));have h4:U4 wr.heap.size 0 x y z d W1:=by rw[← hW1];exact ⟨by simp,by simp,by simp,by simp⟩
   have rB:W1.frozen? ⟨wr.heap.size,3,none⟩=false:=by rw[← hW1];simp
   have aY:=aa (show Bw wr W1 by rw[← hW1];exact ar);have ee:=aa hW1;clear hW1;go_upto_region 7 with fail;rw[ee.o];obtain ⟨s0,s1,s2,s3⟩:=h4;rw[Nat.zero_add] at s1 s2 s3;obtain ⟨W2,hW2⟩:=aG (W1.setCell ⟨wr.heap.size,3,none⟩ (.bool true));have jK:=aa (show U4 wr.heap.size 0 x y z true W2 by
    rw[← hW2];exact ⟨(World.cell?_setCell_other _ _ _ _ (fun e=>by injection e with e1 e2;omega)).trans s0,(World.cell?_setCell_other _ _ _ _ (fun e=>by injection e with e1 e2;omega)).trans s1,(World.cell?_setCell_other _ _ _ _ (fun e=>by injection e with e1 e2;omega)).trans s2,World.cell?_setCell_same _ _ _ s3⟩)
   have mU:=aa (show Bw wr W2 by rw[← hW2];exact aY.setCell (p:=⟨wr.heap.size,3,none⟩) aT _);go_upto_region 8 with fail;clear hW2 s0 s1 s2 s3 rB r0 r1 r2 r3;obtain ⟨r0,r1,r2,r3⟩:=jK.o;rw[Nat.zero_add] at r1 r2 r3;obtain ⟨g2,c2,w9,hrun,hrow2,kn,_⟩:=jm W2 w.heap.size n _ (aP (l.take k)) (x,y,z,true) (aL bU mU) (by omega) (ak HB mU).size;simp only at hrun;have dJ:=aa hrun;have mX:=aa hrow2;have ke:=aa ((ak HB mU).trans kn);have Cq:=aa (show (aP (l.take (k+1))).length=n+1 by rw[Ea.o,List.length_append,pY.o];rfl);clear hrun hrow2 kn;go_wp2_with (at_builtin;refine Lib.wpList_append_run _ rfl _ _ _ _ rfl _ _ rfl rfl _ _ dJ.o ?_);go_roundw
   case rel=>exact ⟨k+1,n+1,g2,c2,by omega,by go_num,rfl,Cq.o,by rw[Ea.o];exact mX.o,ke.o⟩
   case measure=>simp[intOf];omega
  ·have hd:decide (0<z)=false:=by simpa using hz
   have Ea:=aa (show aP (l.take (k+1))=aP (l.take k) by rw[fX.o,if_neg hz,List.append_nil]);go_wp2_with fail;go_roundw
   case rel=>exact ⟨k+1,n,g,c,by omega,by go_num,rfl,by rw[Ea.o];exact pY.o,by rw[Ea.o];exact bU.o,HB.o⟩
   case measure=>simp[intOf];omega
theorem Mt {l:List aj} {p s:Int}:l.any (fun u=>decide (u.1=p∧u.2.1=s))=true↔∃(j:Nat) (u:aj),l[j]?=some u∧u.1=p∧u.2.1=s:=by
 rw[List.any_eq_true];constructor
 ·rintro ⟨u,hu,h⟩
  obtain ⟨j,hj⟩:=List.getElem?_of_mem hu;exact ⟨j,u,hj,(of_decide_eq_true h).1,(of_decide_eq_true h).2⟩
 ·rintro ⟨j,u,hj,h1,h2⟩
  exact ⟨u,List.mem_of_getElem? hj,decide_eq_true ⟨h1,h2⟩⟩
def eE (p:cm) (x:aB):Int:=2+2*p.met+16*x.chunk+x.pos
def PV.Sl (v:PV):Prop:=∃pk nk ck pc nc cc pp np cp pv nv cv pt nt ct,v=⟨.slice pk nk ck,.slice pc nc cc,.slice pp np cp,.slice pv nv cv,.slice pt nt ct⟩
theorem br.sl {w:World} {p:cm} {v:PV} (h:br w p v):v.Sl:=by obtain ⟨pk,ck,ek,_,_⟩:=h.disk.kept.slice;obtain ⟨pc,cc,ec,_,_⟩:=h.disk.cache.slice;obtain ⟨pp,cp,ep,_,_⟩:=h.disk.keep.slice;obtain ⟨pt,ct,et,_,_⟩:=jo h.tabs;obtain ⟨pv,cv,ev,_⟩:=h.aw;obtain ⟨vk,vc,vp,vv,vt⟩:=v;simp only at ek ec ep et ev;subst ek;subst ec;subst ep;subst et;subst ev;exact ⟨_,_,_,_,_,_,_,_,_,_,_,_,_,_,_,rfl⟩
theorem G8 (p:cm) (v:PV) (x:aB) (w:World) (hv:v.Sl) (hm:0≤p.met∧p.met≤1000) (hc:0≤x.chunk∧x.chunk≤1000) (hp:0≤x.pos∧x.pos≤16):Calls prog 20 #[eY p v,x.agg] w fun e w'=>e=.returned (.int .i64 (eE p x))∧Bw w w':=by obtain ⟨pk,nk,ck,pc,nc,cc,pp,np,cp,pv,nv,cv,pt,nt,ct,rfl⟩:=hv;obtain ⟨⟨kept,cache,ah,keep,dead⟩,met,gen,aF,aw,tabs⟩:=p;obtain ⟨xc,xp,xs,xk⟩:=x;unfold eY aB.agg eE;simp only at hm hc hp ⊢;obtain ⟨W1,hW1⟩:=aG ((w.alloc (.cells #[.slice pk nk ck,.slice pc nc cc,.int .i64 ah,.slice pp np cp,.bool dead,.int .i64 met,.int .i64 gen,.int .i64 aF,.slice pv nv cv,.slice pt nt ct] 30)).alloc (.cells #[.int .i64 xc,.int .i64 xp,.int .i64 xs,.bool xk] 50));have aY:=aa (show Bw w W1 by rw[← hW1];exact (ar).alloc (by simp) _);have aU:=aa (show aK W1 w.heap.size [.slice pk nk ck,.slice pc nc cc,.int .i64 ah,.slice pp np cp,.bool dead,.int .i64 met,.int .i64 gen,.int .i64 aF,.slice pv nv cv,.slice pt nt ct] by rw[← hW1];exact (aK.new w _ _).alloc _);have BO:=aa (show aK W1 (w.heap.size+1) [.int .i64 xc,.int .i64 xp,.int .i64 xs,.bool xk] by rw[← hW1];have:=aK.new (w.alloc (.cells #[.slice pk nk ck,.slice pc nc cc,.int .i64 ah,.slice pp np cp,.bool dead,.int .i64 met,.int .i64 gen,.int .i64 aF,.slice pv nv cv,.slice pt nt ct] 30)) [.int .i64 xc,.int .i64 xp,.int .i64 xs,.bool xk] 50;rw[World.size_alloc] at this;exact this);have ee:=aa hW1;clear hW1;go_enter func20,ntmps20;go_upto_region 1 with fail;rw[ee.o];clear ee;have x5:=aU.cell (j:=5) rfl;have r0:=BO.cell (j:=0) rfl;have r1:=BO.cell (j:=1) rfl;have e1:wrap64 (2*met)=2*met:=dN (by omega) (by omega);have e2:wrap64 (2+2*met)=2+2*met:=dN (by omega) (by omega);have e3:wrap64 (16*xc)=16*xc:=dN (by omega) (by omega);have e4:wrap64 (2+2*met+16*xc)=2+2*met+16*xc:=dN (by omega) (by omega);have e5:wrap64 (2+2*met+16*xc+xp)=2+2*met+16*xc+xp:=dN (by omega) (by omega);clear hm hc hp;go_wp2_with fail;go_ret;exact ⟨kH e5,aY⟩
theorem xM (p:cm) (v:PV) (x:aB) (w:World) (hv:v.Sl) (hm:0≤p.met∧p.met≤1000) (hc:0≤x.chunk∧x.chunk≤1000) (hp:0≤x.pos∧x.pos≤16):Calls prog 32 #[eY p v,x.agg] w fun e w'=>e=.returned (.int .i64 (eE p x))∧Bw w w':=by obtain ⟨pk,nk,ck,pc,nc,cc,pp,np,cp,pv,nv,cv,pt,nt,ct,rfl⟩:=hv;obtain ⟨⟨kept,cache,ah,keep,dead⟩,met,gen,aF,aw,tabs⟩:=p;obtain ⟨xc,xp,xs,xk⟩:=x;unfold eY aB.agg eE;simp only at hm hc hp ⊢;obtain ⟨W1,hW1⟩:=aG ((w.alloc (.cells #[.slice pk nk ck,.slice pc nc cc,.int .i64 ah,.slice pp np cp,.bool dead,.int .i64 met,.int .i64 gen,.int .i64 aF,.slice pv nv cv,.slice pt nt ct] 30)).alloc (.cells #[.int .i64 xc,.int .i64 xp,.int .i64 xs,.bool xk] 50));have aY:=aa (show Bw w W1 by rw[← hW1];exact (ar).alloc (by simp) _);have aU:=aa (show aK W1 w.heap.size [.slice pk nk ck,.slice pc nc cc,.int .i64 ah,.slice pp np cp,.bool dead,.int .i64 met,.int .i64 gen,.int .i64 aF,.slice pv nv cv,.slice pt nt ct] by rw[← hW1];exact (aK.new w _ _).alloc _);have BO:=aa (show aK W1 (w.heap.size+1) [.int .i64 xc,.int .i64 xp,.int .i64 xs,.bool xk] by rw[← hW1];have:=aK.new (w.alloc (.cells #[.slice pk nk ck,.slice pc nc cc,.int .i64 ah,.slice pp np cp,.bool dead,.int .i64 met,.int .i64 gen,.int .i64 aF,.slice pv nv cv,.slice pt nt ct] 30)) [.int .i64 xc,.int .i64 xp,.int .i64 xs,.bool xk] 50;rw[World.size_alloc] at this;exact this);have ee:=aa hW1;clear hW1;go_enter func32,ntmps32;go_upto_region 1 with fail;rw[ee.o];clear ee;have x5:=aU.cell (j:=5) rfl;have r0:=BO.cell (j:=0) rfl;have r1:=BO.cell (j:=1) rfl;have e1:wrap64 (2*met)=2*met:=dN (by omega) (by omega);have e2:wrap64 (2+2*met)=2+2*met:=dN (by omega) (by omega);have e3:wrap64 (16*xc)=16*xc:=dN (by omega) (by omega);have e4:wrap64 (2+2*met+16*xc)=2+2*met+16*xc:=dN (by omega) (by omega);have e5:wrap64 (2+2*met+16*xc+xp)=2+2*met+16*xc+xp:=dN (by omega) (by omega);clear hm hc hp;go_wp2_with fail;go_ret;exact ⟨kH e5,aY⟩
theorem oz (x y z:Int) (w:World):Calls prog 181 #[.agg #[.int .i64 x,.int .i64 y,.int .i64 z]] w fun e w'=>e=.returned (.bool (jR ⟨x,y,z⟩))∧Bw w w':=by
 have hb:∀o,Bw w (w.alloc o):=fun o=>aH.alloc aT o;have HB:=aa hb;clear hb;have HG:Hid (jR ⟨x,y,z⟩=true↔if z=0∧y=0 then 0≤x∧x≤255 else x=0∧1≤y∧y≤255∧3≤z∧z≤18):=aa (by
  unfold jR;simp only;split <;> simp only[decide_eq_true_eq])
 obtain ⟨q,hq⟩:=aG (jR ⟨x,y,z⟩);rw[hq] at HG;rw[hq];clear hq;by_cases hA:z=0∧y=0
 ·obtain ⟨rfl,rfl⟩:=hA
  rw[if_pos ⟨rfl,rfl⟩] at HG;have hc:x<0∨0≤x:=by omega
  rcases hc with c1|c1
  all_goals
   go_enter func181,ntmps181;go_wp2_with fail;go_ret;refine ⟨aN ?_,HB _⟩;rw[Bool.eq_iff_iff,HG.o];simp <;> omega
 rw[if_neg hA] at HG;have hc:(¬x=0)∨(x=0∧y<1)∨(x=0∧1≤y∧255<y)∨(x=0∧1≤y∧y≤255∧z<3)∨(x=0∧1≤y∧y≤255∧3≤z):=by omega
 have hd:(z==0)=false∨(z=0∧(y==0)=false):=by
  by_cases e:z=0
  ·exact .inr ⟨e,by simp;exact fun h=>hA ⟨e,h⟩⟩
  ·exact .inl (by simp;exact e)
 clear hA;rcases hc with c|⟨rfl,c⟩|⟨rfl,c1,c2⟩|⟨rfl,c1,c2,c3⟩|⟨rfl,c1,c2,c3⟩
 ·have c5:(x==0)=false:=by simp;exact c
  rcases hd with hd|⟨rfl,hd⟩
  all_goals
   go_enter func181,ntmps181;go_wp2_with fail;go_ret;refine ⟨aN ?_,HB _⟩;rw[Bool.eq_iff_iff,HG.o];simp <;> omega
 all_goals
  rcases hd with hd|⟨rfl,hd⟩
  all_goals
   first
   |(exfalso;omega)
   |(go_enter func181,ntmps181
     go_wp2_with fail;go_ret;refine ⟨aN ?_,HB.o _⟩;rw[Bool.eq_iff_iff,HG.o];simp <;> omega)
theorem Hm (h:¬(pos+n≤s.length∧d≤pos)):gm s pos d n=false:=by unfold gm;rw[decide_eq_false h];rfl
theorem Oe (h:pos+n≤s.length∧d≤pos) (ha:∀i,i<n→s[pos+i]?=s[pos+i-d]?):gm s pos d n=true:=by unfold gm;rw[decide_eq_true h,Bool.true_and,List.all_eq_true];intro i hi;rw[ha i (List.mem_range.1 hi)];simp
theorem Og (hi:i<n) (h:s[pos+i]?≠s[pos+i-d]?):gm s pos d n=false:=by rw[← Bool.not_eq_true];intro ha;unfold gm at ha;simp only[Bool.and_eq_true,List.all_eq_true] at ha;exact h (by simpa using ha.2 i (List.mem_range.2 hi))
theorem SA {s:ByteArray} (h:i<s.size):s.data.toList[i]?=some s[i]:=by rw[List.getElem?_eq_getElem (by simpa using h)];rfl
theorem Oh (s:ByteArray) (pos d n:Nat) (h1:s.size≤1000000) (h2:pos≤1000000) (h3:d≤255) (h4:n≤18) (h5:1≤d) (w:World):Calls prog 228 #[.string s,.int .i64 pos,.int .i64 d,.int .i64 n] w fun e w'=>e=.returned (.bool (gm s.data.toList pos d n))∧Bw w w':=by
 have hsz:s.data.toList.length=s.size:=by simp
 have b1:(s.size:Int)≤1000000:=by omega
 have b2:(pos:Int)≤1000000:=by omega
 have b3:(d:Int)≤255:=by omega
 have b4:(n:Int)≤18:=by omega
 clear h1 h2 h3 h4;by_cases c1:(s.size:Int)<(pos:Int)+(n:Int)
 ·have HF:=aa (Hm (s:=s.data.toList) (pos:=pos) (d:=d) (n:=n) (by omega))
  clear hsz;go_enter func228,ntmps228;go_wp2_with fail;go_ret;exact ⟨aN HF.symm,aH⟩
 by_cases c2:(pos:Int)<(d:Int)
 ·have HF:=aa (Hm (s:=s.data.toList) (pos:=pos) (d:=d) (n:=n) (by omega))
  have c3:(pos:Int)+(n:Int)≤(s.size:Int):=by omega
  have c4:decide (pos<d)=true:=by simp;omega
  clear hsz c1;go_enter func228,ntmps228;go_wp2_with fail;go_ret;exact ⟨aN HF.symm,aH⟩
 have BG:=aa (show pos+n≤s.data.toList.length∧d≤pos by omega);have c3:(pos:Int)+(n:Int)≤(s.size:Int):=by omega
 have c4:decide (pos<d)=false:=by simp;omega
 have c5:(d:Int)≤(pos:Int):=by omega
 clear hsz c1 c2;go_enter func228,ntmps228;go_wp2_with fail;go_loopw [9] (fun i wr=>∃k:Nat,k≤n∧i=.int .i64 k∧(∀i,i<k→s.data.toList[pos+i]?=s.data.toList[pos+i-d]?)∧Bw w wr) (fun i _=>n-(intOf i).toNat)
 case atStart=>exact ⟨0,dO,rfl,fun i hi=>by omega,aH⟩
 case round=>
  obtain ⟨k,hk,rfl,hall,hb⟩:=hrel;have ed:=aa hall;have HB:=aa hb;clear hall hb;by_cases hlt:k<n
  ·have fN:(k:Int)<(n:Int):=by omega
   obtain ⟨q,hq⟩:=aG (pos+k);obtain ⟨r,hr⟩:=aG (q-d);have hqs:q<s.size:=by omega
   have hrs:r<s.size:=(by omega);have e1:IntKind.i64.wrap ((pos:Int)+(k:Int))=(q:Int):=by rw[IntKind.wrap_i64];omega
   have e2:IntKind.i64.wrap ((q:Int)-(d:Int))=(r:Int):=by rw[IntKind.wrap_i64];omega
   have hqi:(q:Int)<(s.size:Int):=(by omega);have hri:(r:Int)<(s.size:Int):=by omega
   have q0:(0:Int)≤(q:Int):=(by omega);have r0:(0:Int)≤(r:Int):=by omega
   have HQ:=aa (show s.data.toList[pos+k]?=some s[q] by rw[hq];exact SA hqs);have HR:=aa (show s.data.toList[pos+k-d]?=some s[r] by rw[hq,hr];exact SA hrs);clear hq hr;by_cases BM:s[q]=s[r]
   ·have QB:((s[q].toNat:Int) != (s[r].toNat:Int))=false:=by rw[BM];simp
    have HXY:=aa BM;clear BM;go_wp2_with fail;go_quiet (fail);go_wp2_with fail;go_roundw
    case rel=>exact ⟨k+1,by omega,by go_num,fun i hi=>by
     by_cases e:i=k
     ·subst e;rw[HQ.o,HR.o,HXY.o]
     ·exact ed.o i (by omega),az HB.o _⟩
    case measure=>simp[intOf];omega
   ·have QB:((s[q].toNat:Int) != (s[r].toNat:Int))=true:=by
     simp only[bne_iff_ne,ne_eq];exact fun h=>BM (UInt8.toNat_inj.1 (by omega))
    have HF:=aa (Og (s:=s.data.toList) (d:=d) hlt (by rw[HQ.o,HR.o];exact fun h=>BM (by injection h)));clear BM;go_wp2_with fail;go_quiet (fail);go_wp2_with fail;go_ret;exact ⟨aN HF.symm,az HB _⟩
  ·obtain rfl:k=n:=by omega
   have HF:=aa (Oe BG ed);go_wp2_with fail;go_ret;exact ⟨aN HF.symm,HB⟩
theorem Kw (h:iR s pos (i+3) 1 255=some d):gV s pos (i+1)=(i+3,d):=by rw[gV,h]
theorem SB (h:iR s pos (i+3) 1 255=none):gV s pos (i+1)=gV s pos i:=by rw[gV,h]
theorem Ky {m:Nat} (h:gm s pos d n=true):iR s pos n d (m+1)=some d:=by rw[iR,if_pos h]
theorem SC {m:Nat} (h:gm s pos d n=false):iR s pos n d (m+1)=iR s pos n (d+1) m:=by rw[iR,if_neg (by rw[h];simp)]
theorem Kz {a b a' b':Int} (h1:a=a') (h2:b=b'):Ending.returned (.tuple #[.int .i64 a,.int .i64 b])=.returned (.tuple #[.int .i64 a',.int .i64 b']):=by rw[h1,h2]
def aeF (w:World) (s:List UInt8) (pos:Nat) (n:Value) (wr:World):Prop:=∃j:Nat,j≤16∧n=.int .i64 ((j:Int)+2)∧eF s pos=gV s pos j∧Bw w wr
def aj5 (w:World) (s:List UInt8) (pos i:Nat) (d:Value) (wr:World):Prop:=∃q m:Nat,d=.int .i64 (q:Int)∧1≤q∧q+m=256∧iR s pos (i+3) 1 255=iR s pos (i+3) q m∧Bw w wr
theorem Hn (s:ByteArray) (pos:Nat) (h1:s.size≤1000000) (h2:pos≤1000000) (w:World):Calls prog 212 #[.string s,.int .i64 pos] w fun e w'=>e=.returned (.tuple #[.int .i64 ((eF s.data.toList pos).1:Nat),.int .i64 ((eF s.data.toList pos).2:Nat)])∧Bw w w':=by
 have hsz:s.data.toList.length=s.size:=by simp
 have b1:(s.size:Int)≤1000000:=by omega
 have b2:(pos:Int)≤1000000:=by omega
 have ed:=aa (fun (d n:Nat) (h3:d≤255) (h4:n≤18) (h5:1≤d) (W:World)=>Oh s pos d n h1 h2 h3 h4 h5 W);clear h1 h2;by_cases c1:(pos:Int)<(s.size:Int)
 case neg=>
  have HF:=aa (show eF s.data.toList pos=(0,0) by unfold eF;rw[if_neg (by omega)]);have c2:decide ((pos:Int)≥(s.size:Int))=true:=by simp;omega
  have c3:decide (s.size≤pos)=true:=by simp;omega
  clear hsz c1;go_enter func212,ntmps212;go_wp2_with fail;go_ret2;exact ⟨Kz (by rw[HF.o];rfl) (by rw[HF.o];rfl),aH⟩
 have HF:=aa (show eF s.data.toList pos=gV s.data.toList pos 16 by unfold eF;rw[if_pos (by omega)]);have c3:decide (s.size≤pos)=false:=by simp;omega
 clear hsz c1;obtain ⟨l,hl⟩:=aG s.data.toList;rw[hl] at HF ed;rw[hl];clear hl;go_enter func212,ntmps212;go_wp2_with fail;go_loopw [6,7] (fun n _ wr=>aeF w l pos n wr) (fun n _ _=>(intOf n).toNat)
 case atStart=>exact ⟨16,aT,rfl,HF,aH⟩
 case round=>
  obtain ⟨j,hj,rfl,zt,hb⟩:=hrel;have Js:=aa zt;have HB:=aa hb;clear zt hb;have aj6:(j:Int)≤16:=by omega
  by_cases hlt:0<j
  ·obtain ⟨i,rfl⟩:∃i,j=i+1:=⟨j-1,by omega⟩
   have Mw:((i+1:Nat):Int)+2=((i+3:Nat):Int):=(by omega);rw[Mw];have h18:((i+3:Nat):Int)≤18:=by omega
   have h3:(3:Int)≤((i+3:Nat):Int):=(by omega);have HI:=aa (show i+3≤18 by omega);obtain ⟨n,hn⟩:=aG (i+3);rw[hn] at h18 h3 HI;rw[hn];have HN:=aa hn;clear hn Mw aj6 hj hlt;obtain ⟨wo,rfl⟩:∃wo:World,wo=wr:=⟨_,rfl⟩
   go_wp2_with fail;go_loopw [7] (fun d wi=>aj5 w l pos i d wi) (fun d _=>256-(intOf d).toNat)
   case atStart=>exact ⟨1,255,rfl,aT,rfl,rfl,HB⟩
   case round=>
    obtain ⟨q,m,rfl,hq1,hqm,Xb,hb⟩:=hrel;have HDI:=aa Xb;have bS:=aa hb;clear Xb hb;by_cases iZ:0<m
    ·obtain ⟨m,rfl⟩:∃k,m=k+1:=⟨m-1,by omega⟩
     have anv:(q:Int)≤255:=(by omega);cases ha:gm l pos q n with
     |true=>have HA:=aa ha;have HR:=aa (show eF l pos=(n,q) by rw[Js.o,← HN.o];exact Kw (by rw[HDI.o];exact Ky (by rw[HN.o];exact ha)));clear ha;go_wp2_with (go_at_call 228;(refine (ed.o q n (by omega) HI.o hq1 _).mono ?_);rintro e w5 ⟨rfl,aR⟩;rw[HA.o];have bp:=aa aR;clear aR);go_ret2;exact ⟨Kz (by rw[HR.o]) (by rw[HR.o]),ak bS bp⟩
     |false=>
      have HA:=aa ha;have CD:=aa (show iR l pos (i+3) 1 255=iR l pos (i+3) (q+1) m by rw[HDI.o];exact SC (by rw[HN.o];exact ha));clear ha;go_wp2_with (go_at_call 228;(refine (ed.o q n (by omega) HI.o hq1 _).mono ?_);rintro e w5 ⟨rfl,aR⟩;rw[HA.o];have bp:=aa aR;clear aR);go_roundw
      case rel=>exact ⟨q+1,m,by go_num,by omega,by omega,CD.o,ak bS.o bp.o⟩
      case measure=>simp[intOf];omega
    ·obtain rfl:m=0:=by omega
     have nP:=aa (show eF l pos=gV l pos i by rw[Js.o];exact SB (by rw[HDI.o];rfl));obtain rfl:q=256:=by omega
     go_wp2_with fail;go_roundw
     case rel=>exact ⟨i,by have:=HI.o;have:=HN.o;omega,by have:=HN.o;congr 1;omega,nP,bS⟩
     case measure=>have:=HN.o;simp[intOf];omega
  ·obtain rfl:j=0:=by omega
   have HR:=aa (show eF l pos=(0,0) by rw[Js.o];rfl);go_wp2_with fail;go_ret2;exact ⟨Kz (by rw[HR.o];rfl) (by rw[HR.o];rfl),HB⟩
def gR (t:jL):List Value:=[.int .i64 t.byte,.int .i64 t.yy,.int .i64 t.len]
theorem Ey (t:jL):(gR t).length=3:=rfl
theorem Ez (t:jL):∀u∈gR t,u.oneCell'=true:=by intro u hu;unfold gR at hu;simp only[List.mem_cons,List.not_mem_nil,or_false] at hu;rcases hu with rfl|rfl|rfl <;> rfl
theorem VU:(prog.info? 226).map (fun i=>(i.zero,i.size,i.bytes))=some (some (.agg #[.int .i64 0,.int .i64 0,.int .i64 0]),3,24):=by kernel_rfl
theorem AF (W:World) (B n:Nat) (v:Value) (l:List jL) (t:jL) (hown:W.ownsRow B 226 3 v n (bk gR l)) (hn:n≤100000000) (hB:B≤W.heap.size) :
 ∃g cap w2,(Builtin.append_ #[189,189] 189 #[v,.slice (some ⟨W.heap.size,0,none⟩) 1 1]).run prog (W.alloc (.cells #[.int .i64 t.byte,.int .i64 t.yy,.int .i64 t.len] 226))=.ok (.slice (some ⟨g,0,none⟩) (n+1) cap) w2∧ku W w2 B n 226 3 v (bk gR l) (gR t) g cap:=by
 obtain ⟨i0,iM,hz0,hz1,hz2⟩:=info_parts VU;exact eV 189 226 i0 _ 3 24 underlying189 iM hz0 hz1 hz2 rfl (by decide) (by decide) W B n v (bk gR l) (gR t) hown rfl (Ez t) hn hB
def aeH (w:World) (s:List UInt8) (n:Nat) (v i:Value) (wr:World):Prop:=
 ∃(k m:Nat) (pre:List jL),k≤n∧i=.int .i64 k∧m=pre.length∧m≤k∧wr.ownsRow w.heap.size 226 3 v m (bk gR pre)∧pre++eG s k=eG s 0∧Bw w wr
theorem Oi (s:ByteArray) (hs:s.size≤1000000) (w:World):Calls prog 183 #[.string s] w fun e w'=>∃v,e=.returned v∧w'.ownsRow w.heap.size 226 3 v (eG s.data.toList 0).length (bk gR (eG s.data.toList 0))∧Bw w w':=by
 have hsz:s.data.toList.length=s.size:=by simp
 obtain ⟨N,hN⟩:=aG s.size;have b1:(N:Int)≤1000000:=by omega
 have HNS:=aa hN;have HS:=aa hs;have mN:=aa hsz;have hNi:(s.size:Int)=(N:Int):=by omega
 have bU:=aa (World.ownsRow_made w #[] 0 (Nat.le_refl w.heap.size) (by unfold maxLen;omega) rfl:(w.alloc (.cells #[] 226)).ownsRow w.heap.size 226 3 (.slice (some ⟨w.heap.size,0,none⟩) 0 0) 0 []);clear hs hsz hN;go_enter func183,ntmps183;go_wp2_with fail;go_loopw [3,4,5,6] (fun v i _ _ wr=>aeH w s.data.toList N v i wr) (fun _ i _ _ _=>N-(intOf i).toNat)
 case atStart=>exact ⟨0,0,[],dO,rfl,rfl,aT,bU,rfl,ar⟩
 case round=>
  obtain ⟨k,m,pre,hk,rfl,hm,jJ,hrow,hsp,hb⟩:=hrel;have HM:=aa hm;have Jt:=aa jJ;have HR:=aa hrow;have XS:=aa hsp;have HB:=aa hb;clear hm jJ hrow hsp hb bU;by_cases hlt:k<N
  ·have fN:(k:Int)<(N:Int):=by omega
   have Qe:k<s.data.toList.length:=by rw[mN.o,HNS.o];exact hlt
   have HC:=aa (fun W=>Hn s k HS (by have:=HS.o;have:=HNS.o;omega) W);have iL:=Gj s.data.toList k;have VV:k<s.size:=by rw[HNS.o];exact hlt
   by_cases hz:(eF s.data.toList k).1=0
   ·have lZ:=aa (xu Qe hz)
    have he:(s.data.toList[k]).toNat=s[k].toNat:=rfl;rw[he] at lZ;have HL0:Hid (eF s.data.toList k=(0,0)):=aa (by rcases iL with e|⟨e,_⟩;exact e;omega);clear iL hz Qe he;obtain ⟨z,hzz⟩:=aG (s[k].toNat);have BU:(s[k].toNat:Int)=(z:Int):=by rw[hzz]
    have anw:(z:Int)≤255:=by have:=s[k].toNat_lt;omega
    rw[hzz] at lZ;clear hzz;have HT:=aa (fun (W:World) (hb:Bw wr W)=>AF W w.heap.size m _ pre ⟨(z:Nat),0,0⟩ (aL HR hb) (by have:=Jt.o;omega) (Nat.le_trans HB.size hb.size));go_upto_region 6 with (go_at_call 212;(refine (HC.o _).mono ?_);rintro e w5 ⟨rfl,aR⟩;rw[HL0.o];have bp:=aa aR;clear aR);obtain ⟨g,cp,w2,hrun,bY⟩:=HT.o _ bp.o;have dJ:=aa hrun;have yD:=aa bY;clear hrun bY;go_wp2_with (at_builtin;refine Lib.wpList_append_run _ rfl _ _ _ _ rfl _ _ rfl rfl _ _ dJ.o ?_);go_roundw
    case rel=>exact ⟨k+1,m+1,pre++[⟨(z:Nat),0,0⟩],by omega,by go_num,by rw[List.length_append,HM.o];rfl,by have:=Jt.o;omega,by rw[← fC];exact yD.o.row,by rw[← XS.o,lZ.o,List.append_assoc];rfl,(ak HB.o bp.o).trans yD.o.below⟩
    case measure=>simp[intOf];omega
   ·have lZ:=aa (xw Qe hz)
    have Zq:3≤(eF s.data.toList k).1∧(eF s.data.toList k).1≤18∧k+(eF s.data.toList k).1≤N:=by
     rcases iL with e|⟨e1,e2,_,_,e5⟩
     ·rw[e] at hz;exact absurd rfl hz
     ·have:=Gk e5;rw[mN.o,HNS.o] at this;exact ⟨e1,e2,this.1⟩
    obtain ⟨⟨a,d⟩,had⟩:∃x,eF s.data.toList k=x:=⟨_,rfl⟩
    rw[had] at Zq lZ;have HL0:=aa had;simp only at Zq lZ;obtain ⟨a3,a18,akN⟩:=Zq;have a3i:(3:Int)≤(a:Int):=by omega
    have arv:(a:Int)≤18:=(by omega);have aki:(k:Int)+(a:Int)≤(N:Int):=by omega
    have hnz:((a:Int)==0)=false:=by simp;omega
    clear iL hz Qe had;have HT:=aa (fun (W:World) (hb:Bw wr W)=>AF W w.heap.size m _ pre ⟨0,(d:Nat),(a:Nat)⟩ (aL HR hb) (by have:=Jt.o;omega) (Nat.le_trans HB.size hb.size));go_upto_region 8 with (go_at_call 212;(refine (HC.o _).mono ?_);rintro e w5 ⟨rfl,aR⟩;rw[HL0.o];have bp:=aa aR;clear aR);obtain ⟨g,cp,w2,hrun,bY⟩:=HT.o _ bp.o;have dJ:=aa hrun;have yD:=aa bY;clear hrun bY;go_wp2_with (at_builtin;refine Lib.wpList_append_run _ rfl _ _ _ _ rfl _ _ rfl rfl _ _ dJ.o ?_);go_roundw
    case rel=>exact ⟨k+a,m+1,pre++[⟨0,(d:Nat),(a:Nat)⟩],by omega,by go_num,by rw[List.length_append,HM.o];rfl,by have:=Jt.o;omega,by rw[← fC];exact yD.o.row,by rw[← XS.o,lZ.o,List.append_assoc];rfl,(ak HB.o bp.o).trans yD.o.below⟩
    case measure=>simp[intOf];omega
  ·have HE:=aa (show pre=eG s.data.toList 0 by
    have:=XS.o;rw[tu (by rw[mN.o,HNS.o];exact hlt),List.append_nil] at this;exact this)
   have Cq:=aa (show (eG s.data.toList 0).length=m by rw[← HE.o,HM.o]);have jO:=aa (show wr.ownsRow w.heap.size 226 3 _ (eG s.data.toList 0).length (bk gR (eG s.data.toList 0)) by rw[Cq.o,← HE.o];exact HR);obtain rfl:k=N:=by omega
   go_wp2_with fail;go_ret;exact ⟨_,rfl,jO,HB⟩
theorem Ho {α:Type} {l:List α} {x:α} (h:l[k]?=some x):l.drop k=x::l.drop (k+1):=by obtain ⟨hlt,rfl⟩:=List.getElem?_eq_some_iff.1 h;exact List.drop_eq_getElem_cons hlt
def My (W:World) (b:Nat) (x y z:Int):Prop:=W.cell? ⟨b,0,none⟩=some (.int .i64 x)∧W.cell? ⟨b,1,none⟩=some (.int .i64 y)∧W.cell? ⟨b,2,none⟩=some (.int .i64 z)
theorem My.new (W:World) (x y z:Int) (T:TypeId):My (W.alloc (.cells #[.int .i64 x,.int .i64 y,.int .i64 z] T)) W.heap.size x y z:=⟨by simp,by simp,by simp⟩
def pQ:List Bool→Nat
 |[]=>0
 |true::_=>0
 |false::l=>pQ l+1
theorem EC:∀l:List Bool,pQ l≤l.length
 |[]=>Nat.le_refl _
 |true::l=>Nat.zero_le _
 |false::l=>by simp only[pQ,List.length_cons];have:=EC l;omega
theorem wI:∀(l:List Bool) (j:Nat),j<pQ l→l[j]?=some false
 |[],j,h=>by simp[pQ] at h
 |true::l,j,h=>by simp[pQ] at h
 |false::l,0,_=>rfl
 |false::l,j+1,h=>by rw[List.getElem?_cons_succ];exact wI l j (by simp only[pQ] at h;omega)
theorem wJ:∀(l:List Bool),pQ l<l.length→l[pQ l]?=some true
 |[],h=>by simp[pQ] at h
 |true::l,_=>rfl
 |false::l,h=>by simp only[pQ,List.getElem?_cons_succ];exact wJ l (by simp only[pQ,List.length_cons] at h;omega)
def je (u:List Bool) (k:Nat):List (Nat×Nat):=if _h:k<u.length then (if 0<pQ (u.drop k) then [(k,pQ (u.drop k))] else [])++je u (k+pQ (u.drop k)+1) else []
termination_by u.length-k
theorem rR (h:u.length≤k):je u k=[]:=by rw[je,dif_neg (by omega)]
theorem Iz {z:Nat} (h:k<u.length) (hz:pQ (u.drop k)=z):je u k=(if 0<z then [(k,z)] else [])++je u (k+z+1):=by rw[je,dif_pos h,hz]
def AW (n:Int) (L:List (Nat×Nat)):Int:=match L.find? (fun y=>decide (n≤(y.2:Int))) with|some y=>y.1|none => -1
theorem qL {u:List Bool} {n:Int}:∀(j k f:Nat),(∀i,i<j→jS u (k+i) n=false)→iV u n (j+f) k=iV u n f (k+j)
 |0,k,f,_=>by rw[Nat.zero_add];rfl
 |j+1,k,f,h=>by rw[show j+1+f=(j+f)+1 by omega,iV,if_neg (by have:=h 0 (by omega);rw[Nat.add_zero] at this;rw[this];simp)];rw[qL j (k+1) f (fun i hi=>by have:=h (i+1) (by omega);rw[show k+(i+1)=k+1+i by omega] at this;exact this)];rw[show k+1+j=k+(j+1) by omega]
theorem KX {n:Int} (hn:1≤n):∀(m k:Nat),u.length-k≤m→iV u n (u.length-k) k=AW n (je u k):=by
 intro m
 induction m with
 |zero=>intro k hk;rw[show u.length-k=0 by omega,rR (by omega)];rfl
 |succ m ih=>
  intro k hk;by_cases h:k<u.length
  case neg=>rw[show u.length-k=0 by omega,rR (by omega)];rfl
  case pos=>
  obtain ⟨z,hz⟩:=aG (pQ (u.drop k));have hzl:z≤u.length-k:=by rw[← hz,← List.length_drop];exact EC _
  have IA:∀j,j<z→u[k+j]?=some false:=fun j hj=>by rw[← List.getElem?_drop];exact wI _ j (by rw[hz];exact hj)
  have xj:k+z<u.length→u[k+z]?=some true:=fun hl=>by rw[← List.getElem?_drop,← hz];exact wJ _ (by rw[hz,List.length_drop];omega)
  rw[Iz h hz];by_cases hnz:n≤(z:Int)
  ·rw[if_pos (by omega)]
   have hf:jS u k n=true:=Gn ⟨hn,by omega⟩ (fun j hj=>IA j (by omega));obtain ⟨f,hf2⟩:∃f,u.length-k=f+1:=⟨u.length-k-1,by omega⟩
   rw[hf2,iV,if_pos hf];unfold AW;rw[List.cons_append,List.find?_cons_of_pos (by simpa using hnz)]
  ·have hno:∀i,i<z+1→k+i<u.length→jS u (k+i) n=false:=fun i hi hl=>by
    by_cases Ut:1≤n∧n≤(u.length:Int)-(k+i:Nat)
    ·have hkz:k+z<u.length:=by omega
     exact CB (k:=z-i) (by omega) (by rw[show k+i+(z-i)=k+z by omega];exact xj hkz)
    ·exact tA Ut
   have hit:AW n ((if 0<z then [(k,z)] else [])++je u (k+z+1))=AW n (je u (k+z+1)):=by
    unfold AW;by_cases h0:0<z
    ·rw[if_pos h0,List.cons_append,List.nil_append,List.find?_cons_of_neg (by simpa using hnz)]
    ·rw[if_neg h0,List.nil_append]
   rw[hit];by_cases hend:k+z<u.length
   ·rw[← ih (k+z+1) (by omega)]
    have:=qL (u:=u) (n:=n) (z+1) k (u.length-(k+z+1)) (fun i hi=>hno i hi (by omega));rw[show z+1+(u.length-(k+z+1))=u.length-k by omega] at this;rw[this];rfl
   ·rw[rR (by omega)]
    have:=qL (u:=u) (n:=n) z k 0 (fun i hi=>hno i (by omega) (by omega));rw[show z+0=u.length-k by omega] at this;rw[this];rfl
theorem KY {n:Int} (hn:1≤n):gy u n=AW n (je u 0):=by have:=KX (u:=u) hn u.length 0 (by omega);unfold gy;rw[Nat.sub_zero] at this;exact this
theorem SU {n:Int} {L pre:List (Nat×Nat)} {x:Nat×Nat} (hp:pre++[x] <+: L) (hn:∀y∈pre,¬n≤(y.2:Int)) (hx:n≤(x.2:Int)):AW n L=x.1:=by obtain ⟨r,rfl⟩:=hp;unfold AW;rw[List.append_assoc,List.find?_append,List.find?_eq_none.2 (fun y hy=>by simpa using hn y hy),Option.none_or,List.singleton_append,List.find?_cons_of_pos (by simpa using hx)]
theorem Wi {n:Int} {L:List (Nat×Nat)} (hn:∀y∈L,¬n≤(y.2:Int)):AW n L = -1:=by unfold AW;rw[List.find?_eq_none.2 (fun y hy=>by simpa using hn y hy)]
theorem KZ {n:Int} (hn:n<1):gy u n = -1:=by
 have key:∀(f a:Nat),iV u n f a = -1:=by
  intro f
  induction f with
  |zero=>intro a;rfl
  |succ f ih=>intro a;rw[iV,if_neg (by rw[tA (by omega)];simp)];exact ih _
 exact key _ _
end Go.Proofs.YtbigkioechkngaaGreat
namespace Go.Proofs.YtbigkioechkngaaGreat
open Go.RowKit Go.Shelf
open Tryz
attribute [local go_sem] Oper.semAt_some
def ME (x:Nat×Nat):Array Value := #[.int .i64 x.1,.int .i64 x.2]
theorem OQ (p:Option Addr) (n c:Nat) (w:World):Calls prog 162 #[.slice p n c] w fun e w'=>e=.returned (.func (.func 199) #[] #[.pointer (some ⟨w.heap.size,0,none⟩)])∧w'=w.alloc (.cells #[.slice p n c] 24):=by go_enter func162,ntmps162;go_wp2_with fail;go_ret;exact ⟨rfl,rfl⟩
theorem SV (n B:Nat) (M₀:Nat→Prop) (u:List Bool) (p:Option Addr) (c:Nat) (w:World) (hc:w.cell? ⟨B,0,none⟩=some (.slice p u.length c)) (hB:M₀ B) (hlen:u.length≤1000000)
 (hrow:∀(i:Nat) (x:Bool),u[i]?=some x→∃g o,p=some ⟨g,o,none⟩∧M₀ g∧w.cell? ⟨g,o+i,none⟩=some (.bool x)) :
 M9 n prog 199 #[.pointer (some ⟨B,0,none⟩)] ME M₀ (je u 0) w:=by
 intro l' J Jx W hW LX hJ2 hY h0;have c0:=ae hW hc;have bU:=aa (fun (i:Nat) (x:Bool) (hx:u[i]?=some x)=>show ∃g o,p=some ⟨g,o,none⟩∧M₀ g∧W.cell? ⟨g,o+i,none⟩=some (.bool x) by
  obtain ⟨g,o,h1,h2,h3⟩:=hrow i x hx;exact ⟨g,o,h1,h2,ae hW h3⟩)
 have H1:=aa LX;have HY:=aa hY;have H0:=aa h0;have yV:=aa hB;obtain ⟨N,hN⟩:=aG u.length;rw[hN] at c0 hlen;have HN:=aa hN;have JP:=aa c0;have hlc:(N:Int)≤1000000:=by omega
 clear hc hrow hW LX hJ2 hY h0 hB hN hlen;refine callsIn_of_wp func199 rfl trivial ?_ rfl;simp only[ntmps199,List.size_toArray,List.length_cons,List.length_nil,Nat.reduceAdd,Nat.reduceSub,Array.replicate_succ,Array.replicate_zero,List.push_toArray,List.append_toArray,List.nil_append,List.cons_append];gi_wp2_with fail;clear c0;gi_loopw [3,4] (fun i _ wr=>∃(k:Nat) (pre:List (Nat×Nat)),k≤N+1∧i=.int .i64 k∧je u 0=pre++je u k∧J M₀ pre wr∧fp M₀ W wr) (fun i _ _=>N+1-(intOf i).toNat)
 case atStart=>exact ⟨0,[],dO,rfl,rfl,H0,fp.refl _ _⟩
 case round=>
  obtain ⟨k,pre,hk,rfl,heq,hj,tj⟩:=hrel;have xA:=aa heq;have Ct:=aa hj;have jZ:=aa tj;have sb:=jZ.cell (a:=⟨B,0,none⟩) yV JP.o;clear heq hj tj;by_cases hlt:k<N
  case neg=>have HT:=aa (show je u 0=pre by rw[xA.o,rR (by rw[HN.o];omega),List.append_nil]);have hd:decide ((k:Int)<(N:Int))=false:=decide_eq_false (by omega);have QP:decide (k<N)=false:=decide_eq_false hlt;gi_wp2_with fail;go_end0;exact ⟨⟨_,rfl⟩,Or.inl ⟨_,by rw[HT.o];exact Ct⟩⟩
  have fN:(k:Int)<(N:Int):=by omega
  have VV:decide ((k:Int)<(N:Int))=true:=decide_eq_true fN;obtain ⟨z,hz⟩:=aG (pQ (u.drop k));have HZ:=aa hz;have Mo:=aa (Iz (by rw[HN.o];exact hlt) hz);have hzn:k+z≤N:=by have:=EC (u.drop k);rw[hz,List.length_drop,HN.o] at this;omega
  have U1:=aa (show ∀j,j<z→u[k+j]?=some false from fun j hj=>by rw[← List.getElem?_drop];exact wI _ j (by rw[hz];exact hj));have HST:=aa (show k+z<N→u[k+z]?=some true from fun hl=>by rw[← List.getElem?_drop,← hz];exact wJ _ (by rw[hz,List.length_drop,HN.o];omega));clear hz;gi_wp2_with fail;obtain ⟨wo,rfl⟩:∃wo,wo=wr:=⟨_,rfl⟩
  have lZ:=aa sb;clear sb;gi_loopw [4] (fun i wz=>∃j:Nat,j≤z∧i=.int .i64 j∧wz=wo) (fun i _=>z-(intOf i).toNat)
  case atStart=>exact ⟨0,dO,rfl,rfl⟩
  case round=>
   obtain ⟨j,hj,rfl,rfl⟩:=hrel;have sb:=lZ.o;have hjk:(k:Int)+(j:Int)≤2000000:=by omega
   have arV:(0:Int)≤(k:Int)+(j:Int):=(by omega);by_cases hjz:j<z
   case pos=>
    obtain ⟨g,o,rfl,Ng,r0⟩:=bU.o (k+j) false (U1 j hjz);have s0:=jZ.cell (a:=⟨g,o+(k+j),none⟩) Ng r0;have OJ:(k:Int)+(j:Int)<(N:Int):=by omega
    have pO:decide ((k:Int)+(j:Int)<(N:Int))=true:=decide_eq_true OJ;have zA:decide (k+j<N)=true:=decide_eq_true (by omega);clear r0 Ng;gi_wp2_with fail;go_roundw
    case rel=>exact ⟨j+1,by omega,by go_num,by first|rfl|trivial⟩
    case measure=>simp[intOf];omega
   case neg=>
    obtain rfl:j=z:=by omega
    have HKJ:=aa hzn;by_cases hend:k+j<N
    case pos=>
     obtain ⟨g,o,rfl,Ng,r0⟩:=bU.o (k+j) true (HST hend);have s0:=jZ.cell (a:=⟨g,o+(k+j),none⟩) Ng r0;have OJ:(k:Int)+(j:Int)<(N:Int):=by omega
     have pO:decide ((k:Int)+(j:Int)<(N:Int))=true:=decide_eq_true OJ;have zA:decide (k+j<N)=true:=decide_eq_true hend;clear r0 Ng;by_cases Rz:0<j
     case neg=>
      obtain rfl:j=0:=by omega
      have yE:=aa (show je u 0=pre++je u (k+0+1) by rw[xA.o,Mo.o,if_neg (by omega),List.nil_append]);have Qz:decide ((0:Int)<((0:Nat):Int))=false:=rfl;rw[Nat.add_zero] at s0;clear OJ pO zA;gi_wp2_with fail
      case h_2=>
       refine ⟨fun f h=>(by cases h),?_⟩;gi_wp2_with fail;go_roundw
       case rel=>exact ⟨k+0+1,pre,by omega,by go_num,yE.o,Ct.o,jZ.o⟩
       case measure=>simp[intOf];omega
     case pos=>
      have hj1:(0:Int)<(j:Int):=(by omega);have Qz:decide ((0:Int)<(j:Int))=true:=decide_eq_true hj1;have D9:decide (0<j)=true:=decide_eq_true Rz;have yE:=aa (show je u 0=(pre++[(k,j)])++je u (k+j+1) by rw[xA.o,Mo.o,if_pos Rz,List.append_assoc]);obtain ⟨fn,tmps,assign,body,QZ,hR⟩:=HY.o (n-1) _ _ (k,j) _ Ct (by rw[yE.o];exact List.prefix_append _ _);simp only[ME] at QZ;gi_wp2_with fail;refine ⟨fun h=>(by cases h),?_⟩;refine hR.mono ?_;rintro e W4 (⟨rfl,LZ,hk4⟩|⟨rfl,L0⟩)
      ·have Q3:=aa LZ;have Nb:=aa (jZ.trans hk4)
       clear LZ hk4 sb
       try clear s0
       gi_wp2_with fail;go_roundw
       case rel=>exact ⟨k+j+1,pre++[(k,j)],by omega,by go_num,yE.o,Q3.o,Nb.o⟩
       case measure=>simp[intOf];omega
      ·have jK:=aa L0
       clear L0 sb
       try clear s0
       gi_wp2_with fail;refine bodyPost_ret (results_none rfl _ _ _) rfl ?_;exact ⟨⟨_,rfl⟩,Or.inr ⟨pre++[(k,j)],by rw[yE.o];exact List.prefix_append _ _,jK⟩⟩
    case neg=>
     have pO:decide ((k:Int)+(j:Int)<(N:Int))=false:=decide_eq_false (by omega);have zA:decide (k+j<N)=false:=decide_eq_false hend;by_cases Rz:0<j
     case neg=>omega
     case pos=>
      have hj1:(0:Int)<(j:Int):=(by omega);have Qz:decide ((0:Int)<(j:Int))=true:=decide_eq_true hj1;have D9:decide (0<j)=true:=decide_eq_true Rz;have yE:=aa (show je u 0=(pre++[(k,j)])++je u (k+j+1) by rw[xA.o,Mo.o,if_pos Rz,List.append_assoc]);obtain ⟨fn,tmps,assign,body,QZ,hR⟩:=HY.o (n-1) _ _ (k,j) _ Ct (by rw[yE.o];exact List.prefix_append _ _);simp only[ME] at QZ;gi_wp2_with fail;refine ⟨fun h=>(by cases h),?_⟩;refine hR.mono ?_;rintro e W4 (⟨rfl,LZ,hk4⟩|⟨rfl,L0⟩)
      ·have Q3:=aa LZ;have Nb:=aa (jZ.trans hk4)
       clear LZ hk4 sb
       try clear s0
       gi_wp2_with fail;go_roundw
       case rel=>exact ⟨k+j+1,pre++[(k,j)],by omega,by go_num,yE.o,Q3.o,Nb.o⟩
       case measure=>simp[intOf];omega
      ·have jK:=aa L0
       clear L0 sb
       try clear s0
       gi_wp2_with fail;refine bodyPost_ret (results_none rfl _ _ _) rfl ?_;exact ⟨⟨_,rfl⟩,Or.inr ⟨pre++[(k,j)],by rw[yE.o];exact List.prefix_append _ _,jK⟩⟩
end Go.Proofs.YtbigkioechkngaaGreat
namespace Go.Proofs.YtbigkioechkngaaGreat
open Go.RowKit Tryz
def fo:List aj→Int
 |[]=>0
 |u::l=>(if u.2.2.1=0 then 0 else u.2.1)+fo l
theorem DA:∀(l m:List aj),fo (l++m)=fo l+fo m
 |[],m=>by rw[List.nil_append,fo,Int.zero_add]
 |u::l,m=>by rw[List.cons_append,fo,fo,DA l m,Int.add_assoc]
theorem Lu {l:List aj} {k:Nat} {u:aj} (h:l[k]?=some u):fo (l.take (k+1))=fo (l.take k)+(if u.2.2.1=0 then 0 else u.2.1):=by rw[List.take_add_one,h,Option.toList_some,DA,fo,fo,Int.add_zero]
theorem DB:∀ {l:List aj},(∀u∈l,fD u=true)→0≤fo l∧fo l≤8*l.length
 |[],_=>by simp[fo]
 |u::l,h=>by
  have h1:=DB (l:=l) (fun v hv=>h v (List.mem_cons_of_mem _ hv));have h2:=cj.1 (h u List.mem_cons_self);rw[fo,List.length_cons]
  split <;> omega
theorem PA {t:List aj} (h:dE t=true) (k:Nat):0≤fo (t.take k)∧fo (t.take k)≤128:=by
 have h1:=DB (l:=t.take k) (fun u hu=>iw h (List.mem_of_mem_take hu));have h2:=gP h;have h3:(t.take k).length≤t.length:=by rw[List.length_take];omega
 omega
def jY:Nat→List (List aj)→Int→Int→Int
 |_,[],b,_=>b
 |i,t::l,b,f=>if 0<fo t∧(b<0∨fo t<f) then jY (i+1) l i (fo t) else jY (i+1) l b f
theorem I2 {l:List (List aj)} {k:Nat} {t:List aj} (b f:Int) (h:l[k]?=some t):jY k (l.drop k) b f=if 0<fo t∧(b<0∨fo t<f) then jY (k+1) (l.drop (k+1)) k (fo t) else jY (k+1) (l.drop (k+1)) b f:=by rw[List.drop_eq_getElem_cons (List.getElem?_eq_some_iff.1 h).1,(List.getElem?_eq_some_iff.1 h).2];rfl
noncomputable def mK (p:cm):Int:=if cG p=true then jY 0 p.tabs (-1) 0 else -1
def jf (l:List aj):List aj:=l.filter (fun u=>decide (¬u.2.2.1=0))
theorem Lx {l:List aj} {k:Nat} {u:aj} (h:l[k]?=some u):jf (l.take (k+1))=jf (l.take k)++(if ¬u.2.2.1=0 then [u] else []):=by unfold jf;rw[List.take_add_one,h,Option.toList_some,List.filter_append];congr 1;by_cases h0:u.2.2.1=0 <;> simp[h0]
theorem PE (l:List aj):(jf l).length≤l.length:=List.length_filter_le ..
def age (w:World) (l:List aj) (N:Nat) (v i:Value) (wr:World):Prop:=∃(k m:Nat),k≤N∧i=.int .i64 k∧(jf (l.take k)).length=m∧wr.ownsRow w.heap.size 52 4 v m (aI (jf (l.take k)))∧Bw w wr
theorem E3 (l:List aj) (hl:l.length≤1000) (v1:Value) (w:World) (h1:dA w v1 l):Calls prog 66 #[v1] w fun e w'=>∃v,e=.returned v∧w'.ownsRow w.heap.size 52 4 v (jf l).length (aI (jf l))∧Bw w w':=by
 obtain ⟨p,cp,rfl,a1,a2,ha⟩:=h1;have HA:=aa ha;obtain ⟨N,hN⟩:=aG l.length;rw[hN] at a1 hl;rw[hN];have hlc:=fG (n:=N) a2;have HN:=aa hN;have Kc:=aa hl;clear ha hN a1 a2 hl;go_enter func66,ntmps66;go_wp2_with fail;go_loopw [3,8] (fun v i wr=>age w l N v i wr) (fun _ i _=>N-(intOf i).toNat)
 case atStart=>exact ⟨0,0,dO,rfl,rfl,World.ownsRow_nil _ _ _ _,aH⟩
 case round=>
  obtain ⟨k,n,hk,rfl,TZ,hrow,hb⟩:=hrel;obtain ⟨q,qm,qc,rfl⟩:=jA hrow;have bU:=aa hrow;have HB:=aa hb;have pY:=aa TZ;clear hrow hb TZ;by_cases hlt:k<N
  case neg=>
   obtain rfl:k=N:=by omega
   have kI:=aa (show jf l=jf (l.take k) by
    rw[List.take_of_length_le (l:=l) (by rw[HN.o];exact aT)])
   go_wp2_with fail;go_ret;refine ⟨_,rfl,?_,HB⟩;rw[kI.o,pY.o];exact bU.o
  case pos=>
  have fN:(k:Int)<(N:Int):=by omega
  obtain ⟨⟨x,y,z,d⟩,hs⟩:∃s,l[k]?=some s:=⟨_,List.getElem?_eq_getElem (by rw[HN.o];omega)⟩
  obtain ⟨gg,o,rfl,x1⟩:=HA.o k _ hs;simp only at x1;have aU:=aa x1;have fX:=aa (Lx hs);have ajp:n≤1000:=by have h3:=PE (l.take k);have h4:(l.take k).length≤k:=List.length_take_le ..;have h5:=pY.o;have h6:=Kc.o;omega
  clear hs x1;obtain ⟨r0,r1,r2,r3⟩:=aU.keep (af HB);by_cases hz:z=0
  ·subst hz
   have Ea:=aa (show jf (l.take (k+1))=jf (l.take k) by rw[fX.o,if_neg (fun h=>h rfl),List.append_nil]);have ke:=aa (HB.alloc (HB.size) (.cells #[.int .i64 x,.int .i64 y,.int .i64 0,.bool d] 52));have agf:=aa (aL bU (show Bw wr (wr.alloc (.cells #[.int .i64 x,.int .i64 y,.int .i64 0,.bool d] 52)) from ar));go_wp2_with fail;go_roundw
   case rel=>exact ⟨k+1,n,by omega,by go_num,by rw[Ea.o];exact pY.o,by rw[Ea.o];exact agf.o,ke.o⟩
   case measure=>simp[intOf];omega
  ·have hd:decide (z=0)=false:=by simpa using hz
   have Ea:=aa (show jf (l.take (k+1))=jf (l.take k)++[(x,y,z,d)] by rw[fX.o,if_pos hz]);obtain ⟨W1,hW1⟩:=aG (wr.alloc (.cells #[.int .i64 x,.int .i64 y,.int .i64 z,.bool d] 52));have h4:U4 wr.heap.size 0 x y z d W1:=by rw[← hW1];exact ⟨by simp,by simp,by simp,by simp⟩
   have aY:=aa (show Bw wr W1 by rw[← hW1];exact ar);have ee:=aa hW1;clear hW1;go_upto_region 5 with fail
   try rw[ee.o]
   clear r0 r1 r2 r3;obtain ⟨s0,s1,s2,s3⟩:=h4;rw[Nat.zero_add] at s1 s2 s3;obtain ⟨g2,c2,w9,hrun,hrow2,kn,_⟩:=jm W1 w.heap.size n _ (jf (l.take k)) (x,y,z,d) (aL bU aY) (by omega) (ak HB aY).size;simp only at hrun;have dJ:=aa hrun;have mX:=aa hrow2;have ke:=aa ((ak HB aY).trans kn);have Cq:=aa (show (jf (l.take (k+1))).length=n+1 by rw[Ea.o,List.length_append,pY.o];rfl);clear hrun hrow2 kn;go_wp2_with (at_builtin;refine Lib.wpList_append_run _ rfl _ _ _ _ rfl _ _ rfl rfl _ _ dJ.o ?_);go_roundw
   case rel=>exact ⟨k+1,n+1,by omega,by go_num,Cq.o,by rw[Ea.o];exact mX.o,ke.o⟩
   case measure=>simp[intOf];omega
end Go.Proofs.YtbigkioechkngaaGreat
