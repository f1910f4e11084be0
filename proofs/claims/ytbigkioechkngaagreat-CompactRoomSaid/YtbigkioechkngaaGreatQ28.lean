/- The proof, part 29. -/
import Derived.Test.YtbigkioechkngaaGreatQ27
set_option maxRecDepth 100000
set_option maxHeartbeats 8000000
namespace Go.Proofs.YtbigkioechkngaaGreat
open Go.RowKit
def mL:List UInt8:=List.replicate 256 (0:UInt8)
def z24:List UInt8:=[1,128,10,0,80,241,128,32,16,8,4,2,1,0,128,64,32,16,8,4,2,1,192,64]
theorem al9:E1 mL=(z24,true,true):=by kernel_rfl
def s32:ByteArray:=⟨(z24++List.replicate 8 (0:UInt8)).toArray⟩
def cV:aL:=⟨List.replicate 42 iY,[],-1,[],false⟩
def cK:aL:=⟨List.replicate 42 iY,[(10,s32)],-1,[],false⟩
def yD:bX:=⟨cV,4,1,0,[],[[],[]]⟩
def DT (t:ag):bX:=⟨cV,4,1,0,[⟨1,3,t⟩],[[],[]]⟩
def eG (t:ag):bX:=⟨cK,4,1,0,[⟨1,3,t⟩],[[(0,1,1,false)],[]]⟩
theorem agk:Kt 42=(cV,0):=by kernel_rfl
theorem DU:gu cV=true:=by kernel_rfl
theorem PI:gu cK=true:=by kernel_rfl
theorem agl:Hx cV 10 ⟨z24.toArray⟩ 1=(cK,0):=by kernel_rfl
theorem agm:cG ⟨0,0,24,true⟩=49:=by kernel_rfl
theorem aa1:bL [[],[]] 1 (-1)=([[(0,1,1,false)],[]],0,0,true):=by kernel_rfl
theorem rD {t:ag} {l:List az} (h:Grown l t) (hr:jD l=true) (hp:l.all (dH 3)=true):dR [⟨1,3,t⟩]=true:=by
 rw[dw];refine ⟨fun d hd=>?_,fun i x y hx hy=>?_,by simp⟩
 ·rw[List.mem_singleton] at hd
  subst hd;unfold cI;simp only;rw[h.may hr,h.1,hp];rfl
 ·cases i <;> simp at hy
theorem mM {t:ag} {l:List az} (h:Grown l t) (hr:jD l=true) (hp:l.all (dH 3)=true):aY [⟨1,3,t⟩]=eh [] l:=by unfold aY;rw[if_pos (rD h hr hp)];simp only[eW];rw[h.1]
theorem sr {l:List dy} {c:Int} {T:List (List aj)} (h1:1≤c∧c≤1000) (h2:dR l=true) {C:List az} (hc:aY l=C) (h3:gA c.toNat (List.replicate c.toNat []) C=some T) (h4:T.all dD=true):cg l c=some T:=by unfold cg;rw[if_pos ⟨h1.1,h1.2,h2⟩,hc,h3];simp only;rw[if_pos h4]
theorem PJ:cA yD=true:=by
 rw[bF];refine ⟨DU,by kernel_rfl,by show (1:Int)≤4∧(4:Int)≤1000;omega,by show (1:Int)≤1∧(1:Int)<1099511627776;omega,.inl rfl,by kernel_rfl,?_⟩;have hv:dR []=true:=by rw[dw];exact ⟨fun d hd=>by simp at hd,fun i x y hx hy=>by simp at hy,by simp⟩
 exact sr (by show (1:Int)≤2∧(2:Int)≤1000;omega) hv (C:=[]) (by show aY []=[];unfold aY;rw[if_pos hv];rfl) (by kernel_rfl) (by kernel_rfl)
theorem PK {t:ag} (h:Grown [] t):cA (DT t)=true:=by rw[bF];refine ⟨DU,by kernel_rfl,by show (1:Int)≤4∧(4:Int)≤1000;omega,by show (1:Int)≤1∧(1:Int)<1099511627776;omega,.inl rfl,by kernel_rfl,?_⟩;exact sr (by show (1:Int)≤2∧(2:Int)≤1000;omega) (rD h (by kernel_rfl) (by kernel_rfl)) (C:=[]) (mM h (by kernel_rfl) (by kernel_rfl)) (by kernel_rfl) (by kernel_rfl)
theorem zw {t:ag} (h:Grown [(2,49)] t):cA (eG t)=true:=by rw[bF];refine ⟨PI,by kernel_rfl,by show (1:Int)≤4∧(4:Int)≤1000;omega,by show (1:Int)≤1∧(1:Int)<1099511627776;omega,.inl rfl,by kernel_rfl,?_⟩;exact sr (by show (1:Int)≤2∧(2:Int)≤1000;omega) (rD h (by kernel_rfl) (by kernel_rfl)) (C:=[(49,1)]) ((mM h (by kernel_rfl) (by kernel_rfl)).trans (by kernel_rfl)) (by kernel_rfl) (by kernel_rfl)
theorem agn {t:ag} (h:Grown [(2,49)] t):br [⟨1,3,t⟩] 0=[(⟨0,0,24,true⟩,1)]:=by
 unfold br;rw[(mM h (by kernel_rfl) (by kernel_rfl)).trans (show eh [] [(2,49)]=[(49,1)] by kernel_rfl)]
 kernel_rfl
theorem agp {t:ag} (h:Grown [(2,49)] t):br [⟨1,3,t⟩] 1=[]:=by
 unfold br;rw[(mM h (by kernel_rfl) (by kernel_rfl)).trans (show eh [] [(2,49)]=[(49,1)] by kernel_rfl)]
 kernel_rfl
def U2:Int→Option aA:=ru (fun _=>none) 49 ⟨1,0,24,true⟩
def mO:aL:=⟨List.replicate 42 iY,[(10,s32),(26,s32)],-1,[],false⟩
def xw (t:ag):bX:=⟨mO,4,1,0,[mK U2 ⟨1,3,t⟩],[[],[(0,1,1,false)]]⟩
theorem aa2:bH 0 [((⟨0,0,24,true⟩:aA),(1:Int))] ([[(0,1,1,false)],[]],fun _=>none)=some ([[(0,1,1,false)],[(0,1,1,false)]],U2):=by
 unfold bH;rw[if_pos (by kernel_rfl)];unfold bH;have h1:bL [[(0,1,1,false)],[]] (bQ 24) 0=([[(0,1,1,false)],[(0,1,1,false)]],1,0,true):=by kernel_rfl
 simp only at h1 ⊢;rw[h1,agm];rfl
theorem aa3:bl 4 U2 [((⟨0,0,24,true⟩:aA),(1:Int))] cK=(mO,0):=by kernel_rfl
theorem aa4:cJ U2 [((⟨0,0,24,true⟩:aA),(1:Int))] [[(0,1,1,false)],[(0,1,1,false)]]=[[],[(0,1,1,false)]]:=by kernel_rfl
theorem Fm {p:bX} (h:cA p=true):¬cA p=false:=by rw[h];simp
theorem aa5 {t:ag} (h:Grown [(2,49)] t):cX (eG t) 0=(xw t,0):=by unfold cX;rw[if_neg (Fm (zw h)),if_neg (show ¬(eG t).disk.dead=true by simp[eG,cK]),if_neg (show ¬((0:Int)<0∨((eG t).tabs.length:Int)≤0) by simp[eG])];have hv:br (eG t).av 0=[(⟨0,0,24,true⟩,1)]:=agn h;rw[hv];have ht:bH 0 [((⟨0,0,24,true⟩:aA),(1:Int))] ((eG t).tabs,fun _=>none)=some ([[(0,1,1,false)],[(0,1,1,false)]],U2):=aa2;have hc:bl (eG t).met U2 [((⟨0,0,24,true⟩:aA),(1:Int))] (eG t).disk=(mO,0):=aa3;rw[ht];simp only;rw[hc,aa4,if_neg (by simp)];rfl
theorem PN (v:Int):ir (fun _=>none) v=v:=rfl
theorem DY (t:ag):je (fun _=>none) t=t:=by
 induction t using ag.ind with
 |h ks vs kids ih=>
  simp only[je,oJ];congr 1
  ·rw[show ir (fun _=>none)=id from funext PN,List.map_id]
  ·refine (List.map_congr_left (g:=id) fun t ht=>ih t ht).trans (List.map_id _)
theorem aa6 {t:ag} (h:Grown [(2,49)] t):cX (eG t) 1=(eG t,0):=by
 unfold cX;rw[if_neg (Fm (zw h)),if_neg (show ¬(eG t).disk.dead=true by simp[eG,cK]),if_neg (show ¬((1:Int)<0∨((eG t).tabs.length:Int)≤1) by simp[eG])];have hv:br (eG t).av 1=[]:=agp h;rw[hv];simp only[bH,bl,cJ,List.foldl_nil];rw[if_neg (by simp)];have hr:(eG t).av.map (mK fun _=>none)=(eG t).av:=by unfold eG mK;simp only[List.map_cons,List.map_nil,DY]
 rw[hr]
theorem aa7 {t:ag} (h:Grown [(2,49)] t):cX (eG t) 2=(eG t,1):=by unfold cX;rw[if_neg (Fm (zw h)),if_neg (show ¬(eG t).disk.dead=true by simp[eG,cK]),if_pos (show (2:Int)<0∨((eG t).tabs.length:Int)≤2 by simp[eG])]
theorem yE {t:ag} (h:Grown [(2,49)] t):Grown [(2,8273)] (je U2 t):=by have:=h.rew U2;rw[show [((2:Int),(49:Int))].map (Xf U2)=[(2,8273)] by kernel_rfl] at this;exact this
theorem PO {t:ag} (h:Grown [(2,49)] t):cA (xw t)=true:=by have hg:=yE h;rw[bF];refine ⟨by kernel_rfl,by kernel_rfl,by show (1:Int)≤4∧(4:Int)≤1000;omega,by show (1:Int)≤1∧(1:Int)<1099511627776;omega,.inl rfl,by kernel_rfl,?_⟩;exact sr (l:=[⟨1,3,je U2 t⟩]) (by show (1:Int)≤2∧(2:Int)≤1000;omega) (rD hg (by kernel_rfl) (by kernel_rfl)) (C:=[(8273,1)]) ((mM hg (by kernel_rfl) (by kernel_rfl)).trans (by kernel_rfl)) (by kernel_rfl) (by kernel_rfl)
theorem jO {t:ag} {l:List az} (h:Grown l t) (hl:l.length≤2000) (a b:Int):bO [⟨a,b,t⟩]:=fun d hd=>by rw[List.mem_singleton] at hd;subst hd;show (aB t).length≤2000;rw[h.1];exact hl
theorem zy (x:aA):aP (cG x):=by
 unfold cG;by_cases h:cE x=true
 ·rw[if_pos h]
  obtain ⟨h1,h2,h3,h4,h5,h6,h7⟩:=(bz x).1 h;have:=(gD h3 h4).1;unfold kx aP;cases x.packed <;> simp <;> omega
 ·rw[if_neg h];unfold aP;omega
theorem gj.ame {w:World} {F:Nat→Prop} {ks vs:List Int} {kids:List ag} {a b c:Value} (h:gj w F (.mk ks vs kids) a b c) {j:Nat} {t:ag} (ht:kids[j]?=some t):∃(K:Nat→Prop) (x y z:Value) (xs:List Value),w.ownsRow 0 73 3 c kids.length xs∧xs[j*3]?=some x∧xs[j*3+1]?=some y∧xs[j*3+2]?=some z∧gj w K t x y z∧(∀q,K q→F q∧c.ownBlock≠some q)∧∀(w':World) (t':ag),gj w' K t' x y z→(∀q,q<w.heap.size→¬K q→w'.heap[q]?=w.heap[q]?)→gj w' F (.mk ks vs (kids.set j t')) a b c:=by
 cases h with
 |mk F0 ks vs kids a b c xs G X ha hb hc ba bb fa fb fc hab hx hk hG J2=>
  have hj:=(List.getElem?_eq_some_iff.1 ht).1;obtain ⟨x1,x2,x3⟩:=hx j hj;refine ⟨G j,_,_,_,xs,hc,x1,x2,x3,hk j t ht,fun q hq=>⟨(hG j q hq).1,(hG j q hq).2.2.2⟩,fun w' t' hn hs=>?_⟩;refine .mk F ks vs (kids.set j t') a b c xs G X (gm ha fun g h hl=>hs g hl (fun hq=>(hG j g hq).2.1 h)) (gm hb fun g h hl=>hs g hl (fun hq=>(hG j g hq).2.2.1 h)) (by rw[List.length_set];exact gm hc fun g h hl=>hs g hl (fun hq=>(hG j g hq).2.2.2 h)) ba bb fa fb fc hab (fun i hi=>hx i (by rw[List.length_set] at hi;exact hi)) (fun i s hi=>?_) hG J2;by_cases e:j=i
  ·subst e
   rw[List.getElem?_set_self hj] at hi;cases hi;exact hn
  ·rw[List.getElem?_set_ne e] at hi
   exact (hk i s hi).same (fun q hq hl=>hs q hl (J2 i j q (fun h=>e h.symm) hq))
theorem gj.rows {w:World} {F:Nat→Prop} {ks vs:List Int} {kids:List ag} {a b c:Value} (h:gj w F (.mk ks vs kids) a b c):w.ownsRow 0 3 1 b vs.length (bB vs)∧(∀x∈vs,aP x)∧∀g,b.ownBlock=some g→F g:=by
 cases h with
 |mk F0 ks vs kids a b c xs G X ha hb hc ba bb fa fb fc hab hx hk hG J2=>exact ⟨hb,bb,fb⟩
theorem jz.same {W W':World} {b n:Nat} {f:Int→Option aA} (h:jz W b n f) (hs:W'.heap[b]?=W.heap[b]?):jz W' b n f:=by obtain ⟨D,⟨es,clock,h1,h2⟩,h3⟩:=h;exact ⟨D,⟨es,clock,hs.trans h1,h2⟩,h3⟩
def xx (f:Int→Option aA) (vs:List Int) (k:Nat):List Int:=(vs.take k).map (ir f)++vs.drop k
theorem BC (f:Int→Option aA) (vs:List Int) (k:Nat):(xx f vs k).length=vs.length:=by unfold xx;rw[List.length_append,List.length_map,List.length_take,List.length_drop];omega
theorem Fq {f:Int→Option aA} {vs:List Int} {k:Nat} {v:Int} (h:vs[k]?=some v):(xx f vs k)[k]?=some v:=by have hk:=(List.getElem?_eq_some_iff.1 h).1;unfold xx;rw[List.getElem?_append_right (by rw[List.length_map,List.length_take];omega),List.length_map,List.length_take,Nat.min_eq_left (by omega),Nat.sub_self,List.getElem?_drop,Nat.add_zero];exact h
theorem BD {α:Type} (g:α→α) {l:List α} {k:Nat} {v:α} (h:l[k]?=some v):(l.take (k+1)).map g++l.drop (k+1)=((l.take k).map g++l.drop k).set k (g v):=by have hk:=(List.getElem?_eq_some_iff.1 h).1;rw[List.drop_eq_getElem_cons hk,(List.getElem?_eq_some_iff.1 h).2,List.set_append_right _ _ (by rw[List.length_map,List.length_take];omega),List.length_map,List.length_take,Nat.min_eq_left (by omega),Nat.sub_self,List.set_cons_zero,List.take_add_one,h,Option.toList_some,List.map_append,List.append_assoc];rfl
theorem D5 {f:Int→Option aA} {vs:List Int} {k:Nat} {v:Int} (h:vs[k]?=some v):xx f vs (k+1)=(xx f vs k).set k (ir f v):=BD _ h
theorem PS {f:Int→Option aA} {vs:List Int} {k:Nat} {v:Int} (h:vs[k]?=some v) (hf:f v=none):xx f vs (k+1)=xx f vs k:=by
 rw[D5 h,show ir f v=v by unfold ir;rw[hf]];have:=Fq (f:=f) h;exact List.ext_getElem? fun i=>by
  by_cases e:k=i
  ·subst e
   rw[List.getElem?_set_self (List.getElem?_eq_some_iff.1 this).1];exact this.symm
  ·rw[List.getElem?_set_ne e]
def Fs (f:Int→Option aA) (l:List ag) (k:Nat):List ag:=(l.take k).map (je f)++l.drop k
theorem TS (f:Int→Option aA) (l:List ag) (k:Nat):(Fs f l k).length=l.length:=by unfold Fs;rw[List.length_append,List.length_map,List.length_take,List.length_drop];omega
theorem Xg {f:Int→Option aA} {l:List ag} {k:Nat} {v:ag} (h:l[k]?=some v):(Fs f l k)[k]?=some v:=by have hk:=(List.getElem?_eq_some_iff.1 h).1;unfold Fs;rw[List.getElem?_append_right (by rw[List.length_map,List.length_take];omega),List.length_map,List.length_take,Nat.min_eq_left (by omega),Nat.sub_self,List.getElem?_drop,Nat.add_zero];exact h
theorem abe {W:World} {g o b:Nat} {u a0 a1 a2 a3:Value} (h:W.cell? ⟨g,o+1,none⟩=some u) (h2:aJ W b [a0,a1,a2,a3]):W.cell? ⟨g,o+1,none⟩=some u∧W.cell? ⟨b,0,none⟩=some a0∧W.cell? ⟨b,1,none⟩=some a1∧W.cell? ⟨b,2,none⟩=some a2∧W.cell? ⟨b,3,none⟩=some a3:=⟨h,h2.cell rfl,h2.cell rfl,h2.cell rfl,h2.cell rfl⟩
theorem Xh (t:ag):∀(F:Nat→Prop) (a b c:Value) (low:Int) (g o mb n:Nat) (f:Int→Option aA) (w:World),gj w F t a b c→bG t low=true→w.cell? ⟨g,o+1,none⟩=some b→w.cell? ⟨g,o+2,none⟩=some c→¬F g→¬F mb→jz w mb n f →
 Calls Tryz.prog 34 #[.pointer (some ⟨g,o,none⟩),.map (some mb)] w fun e w'=>e=.returned (.tuple #[])∧gj w' F (je f t) a b c∧dr F w w':=by
 induction t using ag.ind with
 |h ks vs kids ih=>
  intro F a b c low g o mb n f w hn hs hcb hcc hFg hFm hm;obtain ⟨l1,l2,l3,l4⟩:=BB hs;have zD:=aa (fun t ht K x y z g o w h1 h2 h3 h4 h5 h6=>ih t ht K x y z 2 g o mb n f w h1 (l4 t ht) h2 h3 h4 h5 h6);clear ih l4 hs;simp only[ag.keys,ag.vals,ag.kids] at l1 l2 l3;obtain ⟨M,hM⟩:=aG vs.length;obtain ⟨N,hN⟩:=aG kids.length;have qA:=aa hM;have lz:=aa hN;have HN:=aa hn;have HM:=aa hm;have ya:=aa (And.intro hFg hFm);have HGL:=aa (And.intro (World.block_lt_of_cell? _ _ hcb) hm.lt);have FQ:=aa hcb;have Mz:=aa hcc;have hMl:(M:Int)≤4:=by omega
  have hNl:(N:Int)≤4:=by omega
  obtain ⟨pa,na,ca,pb,nb,cb,pc,nc,cc,rfl,rfl,rfl⟩:=hn.slices;obtain ⟨hnb,UE⟩:nb=M∧nc=N:=by obtain ⟨_,⟨_,_,e2,_⟩,⟨_,_,e3,_⟩⟩:=bD.1 hn.read;injection e2 with _ e2 _;injection e3 with _ e3 _;exact ⟨e2.trans hM,e3.trans hN⟩
  subst hnb;subst UE;clear hn hM hN hm hFg hFm l1 l2 l3 hcc;go_enter Tryz.func34,Tryz.ntmps34;go_wp2_with fail;clear hcb;go_loopw [14,4,5,6,7] (fun i _ _ _ _ wr=>∃k:Nat,k≤nb∧i=.int .i64 k∧gj wr F (.mk ks (xx f vs k) kids) (.slice pa na ca) (.slice pb nb cb) (.slice pc nc cc)∧dr F w wr) (fun i _ _ _ _ _=>nb-(intOf i).toNat)
  case atStart=>exact ⟨0,dQ,rfl,HN,dr.eN aH⟩
  case round=>
   obtain ⟨k,hk,rfl,hr,hz⟩:=hrel;have HR:=aa hr;have HZ:=aa hz;clear hr hz;by_cases hlt:k<nb
   case neg=>
    obtain rfl:k=nb:=by omega
    have HV:=aa (show xx f vs k=vs.map (ir f) by
     unfold xx;rw[List.take_of_length_le (by rw[qA.o];exact aT),List.drop_of_length_le (by rw[qA.o];exact aT),List.append_nil])
    rw[HV.o] at HR;have wM:=(World.cell?_of_block (a:=⟨g,o+2,none⟩) (HZ.block g HGL.1 ya.1)).trans Mz.o;go_wp2_with fail;clear wM;obtain ⟨wo,QQ⟩:∃wo,wo=wr:=⟨_,rfl⟩
    go_loopw [40,8] (fun i _ wr=>∃j:Nat,j≤nc∧i=.int .i64 j∧gj wr F (.mk ks (vs.map (ir f)) (Fs f kids j)) (.slice pa na ca) (.slice pb k cb) (.slice pc nc cc)∧dr F w wr) (fun i _ _=>nc-(intOf i).toNat)
    case atStart=>exact ⟨0,dQ,rfl,HR,HZ⟩
    case round=>
     obtain ⟨j,hj,rfl,hr,hz⟩:=hrel;have uR:=aa hr;have HZZ:=aa hz;clear hr hz;by_cases hlj:j<nc
     case neg=>
      obtain rfl:j=nc:=by omega
      have HW:=aa (show je f (.mk ks vs kids)=.mk ks (vs.map (ir f)) (Fs f kids j) by
       rw[je,oJ];unfold Fs;rw[List.take_of_length_le (by rw[lz.o];exact aT),List.drop_of_length_le (by rw[lz.o];exact aT),List.append_nil])
      go_wp2_with fail;go_end0;exact ⟨rfl,by rw[HW.o];exact uR,HZZ⟩
     case pos=>
      have FI:(j:Int)<(nc:Int):=(by omega);have R7:(0:Int)≤(j:Int):=by omega
      obtain ⟨t,ht⟩:=fy (l:=kids) (k:=j) (by rw[lz.o];exact hlj);obtain ⟨K,x,y,z,xs,hrow,x1,x2,x3,Hs,hkf,hback⟩:=uR.ame (Xg (f:=f) ht);rw[TS,lz.o] at hrow;rcases aK hrow with ⟨_,h2,_⟩|⟨gc,cap',h1⟩
      ·omega
      injection h1 with h1 _ h3;subst h1;subst h3;have TT:∀i u,xs[i]?=some u→wr.cell? ⟨gc,i,none⟩=some u:=fun i u hi=>by obtain ⟨h6,h7⟩:=List.getElem?_eq_some_iff.1 hi;have:=bJ hrow _ h6;rw[h7] at this;exact this
      have hgc:¬K gc:=fun h=>(hkf gc h).2 rfl;have HMR:=aa (HM.same (HZZ.block mb HGL.2 ya.2));have tG:=aa (zD.o t (List.mem_of_getElem? ht) K x y z gc (j*3) wr Hs (TT _ _ x2) (TT _ _ x3) hgc (fun h=>ya.2 (hkf mb h).1) HMR);have HKF:=aa hkf;have NP:=aa hback;have fS:=aa (show Fs f kids (j+1)=(Fs f kids j).set j (je f t) from BD _ ht);have wM:=(World.cell?_of_block (a:=⟨g,o+2,none⟩) (HZZ.block g HGL.1 ya.1)).trans Mz.o;clear hrow x1 x2 x3 Hs hkf hback TT hgc ht;go_wp2_with (go_at_call 34;(with_reducible refine tG.o.mono ?_);rintro e w5 ⟨rfl,hn5,hz5⟩;have Yp:=aa hn5;have si:=aa hz5;clear hn5 hz5 wM);go_roundw
      case rel=>exact ⟨j+1,by omega,by go_num,by rw[fS.o];exact NP.o _ _ Yp.o si.o.block,HZZ.o.trans (si.o.mono fun q hq=>(HKF.o q hq).1)⟩
      case measure=>simp[intOf];omega
   case pos=>
    have fO:(k:Int)<(nb:Int):=(by omega);have Np:(0:Int)≤(k:Int):=by omega
    obtain ⟨v,hv⟩:=fy (l:=vs) (k:=k) (by rw[qA.o];exact hlt);obtain ⟨hrow,iO,hFb⟩:=HR.rows;have hvb:=iO v (List.mem_of_getElem? (Fq (f:=f) hv));rw[BC,qA.o] at hrow;rcases aK hrow with ⟨_,h2,_⟩|⟨gb,cap',h1⟩
    ·omega
    injection h1 with h1 _ h3;subst h1;subst h3;have hiv:(bB (xx f vs k))[k]?=some (.int .i64 v):=by unfold bB;rw[List.getElem?_map,Fq hv];rfl
    have kb:wr.cell? ⟨gb,k,none⟩=some (.int .i64 v):=by obtain ⟨h6,h7⟩:=List.getElem?_eq_some_iff.1 hiv;have:=bJ hrow _ h6;rw[h7] at this;exact this
    have hMR:=HM.same (HZ.block mb HGL.2 ya.2);have hlk:=hMR.look hvb;have bY:=aa hrow;have fL:=aa iO;have HGB:=aa (hFb gb rfl);have HV:=aa hv;clear hrow iO hFb hiv hvb hMR hv;cases hf:f v with
    |none=>
     rw[hf] at hlk;simp only[Option.getD_none,Option.isSome_none,aA.agg,aA.zero] at hlk;have HE:=aa (PS HV hf);clear hf;go_wp2_with fail;go_roundw
     case rel=>have hb:Bw wr (wr.alloc (.cells #[.int .i64 0,.int .i64 0,.int .i64 0,.bool false] 50)):=aq;exact ⟨k+1,by omega,by go_num,by rw[HE.o];exact HR.o.kept (aS hb none) (fun q _ e=>by cases e),HZ.o.trans (dr.eN hb)⟩
     case measure=>simp[intOf];omega
    |some y=>
     obtain ⟨yc,yp,ys,yk⟩:=y;rw[hf] at hlk;simp only[Option.getD_some,Option.isSome_some,aA.agg] at hlk;have HE:=aa (D5 (f:=f) HV);have HNV:=aa (show ir f v=cG ⟨yc,yp,ys,yk⟩ by unfold ir;rw[hf]);have Zr:=aa (zy ⟨yc,yp,ys,yk⟩);have zo:=aa (fun W=>vw ⟨yc,yp,ys,yk⟩ W);unfold aA.agg at zo;simp only at zo;have cQ:=aa (show Bw wr (wr.alloc (.cells #[.int .i64 yc,.int .i64 yp,.int .i64 ys,.bool yk] 50)).drew from (aq).drew);have kB:=aa (show aJ (wr.alloc (.cells #[.int .i64 yc,.int .i64 yp,.int .i64 ys,.bool yk] 50)).drew wr.heap.size [.int .i64 yc,.int .i64 yp,.int .i64 ys,.bool yk] from (aJ.new wr [.int .i64 yc,.int .i64 yp,.int .i64 ys,.bool yk] 50).drew);have MM:=aa (show wr.cell? ⟨g,o+1,none⟩=some (.slice (some ⟨gb,0,none⟩) nb cb) from (World.cell?_of_block (a:=⟨g,o+1,none⟩) (HZ.block g HGL.1 ya.1)).trans FQ);have gG:=aa (abe (ae cQ MM) kB);clear hf;go_upto_region 5 with fail;go_region_held3 (fun w'=>w'.cell? ⟨g,o+1,none⟩=some (.slice (some ⟨gb,0,none⟩) nb cb)∧w'.cell? ⟨wr.heap.size,0,none⟩=some (.int .i64 yc)∧w'.cell? ⟨wr.heap.size,1,none⟩=some (.int .i64 yp)∧w'.cell? ⟨wr.heap.size,2,none⟩=some (.int .i64 ys)∧w'.cell? ⟨wr.heap.size,3,none⟩=some (.bool yk))
      (first|(with_reducible exact gG.o)|(with_reducible exact qU.o)|(with_reducible exact Fa.o))
      (first|((with_reducible refine (zo.o _).mono ?_);rintro e w7 ⟨rfl,hb⟩;have fg:=aV cQ hb;have qU:=aa (abe (ae fg.o MM.o) (kB.o.below hb));have kb7:=ae fg.o kb;have kf7:=gC (aM bY.o fg.o) k;have Fa:=aa (show (w7.setCell ⟨gb,k,none⟩ (.int .i64 (cG ⟨yc,yp,ys,yk⟩))).cell? ⟨g,o+1,none⟩=some (.slice (some ⟨gb,0,none⟩) nb cb)∧(w7.setCell ⟨gb,k,none⟩ (.int .i64 (cG ⟨yc,yp,ys,yk⟩))).cell? ⟨wr.heap.size,0,none⟩=some (.int .i64 yc)∧(w7.setCell ⟨gb,k,none⟩ (.int .i64 (cG ⟨yc,yp,ys,yk⟩))).cell? ⟨wr.heap.size,1,none⟩=some (.int .i64 yp)∧(w7.setCell ⟨gb,k,none⟩ (.int .i64 (cG ⟨yc,yp,ys,yk⟩))).cell? ⟨wr.heap.size,2,none⟩=some (.int .i64 ys)∧(w7.setCell ⟨gb,k,none⟩ (.int .i64 (cG ⟨yc,yp,ys,yk⟩))).cell? ⟨wr.heap.size,3,none⟩=some (.bool yk) from abe ((aw w7 gb k _).cell qU.o.1 (fun e=>ya.o.1 (by rw[show g=gb from Option.some.inj e];exact HGB.o))) ((kB.o.below hb).far (by have:=(bY.o.lt gb rfl).2;omega) _ _));clear hb))
     clear kb;go_wp2_with fail;go_roundw
     case rel=>
      have VZ:=aM bY fg.o;have Mr:(bB (xx f vs k)).length=nb:=by unfold bB;rw[List.length_map,BC,qA.o]
      have Yy:=l9 VZ k (.int .i64 (cG ⟨yc,yp,ys,yk⟩)) (by rw[Mr];exact hlt);have ho7:=HR.kept (aS fg none) (fun q _ e=>by cases e);refine ⟨k+1,by omega,by go_num,?_,(HZ.o.trans (dr.eN fg.o)).trans (dr.gJ (aw w7 gb k _) (fun r e=>by cases e;exact HGB.o))⟩;rw[HE.o,HNV.o];refine ho7.vals (by rw[List.length_set,BC,qA.o,← rX];exact Yy) (fun x hx=>?_) (fun q hq hne=>(aw w7 gb k _).block q hq (fun e=>hne (by rw[Option.some.inj e];rfl)));rcases List.mem_or_eq_of_mem_set hx with h|h
      ·exact fL x h
      ·rw[h];exact Zr.o
     case measure=>simp[intOf];omega
def fJ (w:World) (B:Nat) (F:Nat→Prop) (vv:Value) (l:List dy):Prop:=
 ∃(xs:List (dy×(Value×Value×Value))) (G:Nat→Nat→Prop),xs.map Prod.fst=l∧w.ownsRow B 75 5 vv l.length (fV xs) ∧
  (∀j x,xs[j]?=some x→aP x.1.id∧aP x.1.size∧gj w (G j) x.1.map x.2.1 x.2.2.1 x.2.2.2)∧(∀j q,G j q→F q∧vv.ownBlock≠some q)∧∀i j q,i≠j→G i q→¬G j q
theorem fJ.kept {w w':World} {B:Nat} {F:Nat→Prop} {vv:Value} {l:List dy} {row:Option Nat} (h:fJ w B F vv l) (hg:w.grownBy w' row) (hF:∀q,F q→row≠some q) (hv:vv.ownBlock=none∨vv.ownBlock≠row):fJ w' B F vv l:=by obtain ⟨xs,G,h1,h2,h3,h4,h5⟩:=h;exact ⟨xs,G,h1,h2.kept hg hv,fun j x hx=>⟨(h3 j x hx).1,(h3 j x hx).2.1,(h3 j x hx).2.2.kept hg fun q hq=>hF q (h4 j q hq).1⟩,h4,h5⟩
theorem fJ.low {w w':World} {B:Nat} {F:Nat→Prop} {vv:Value} {l:List dy} (h:fJ w B F vv l) (hb:Bw w w'):fJ w' B F vv l:=
 h.kept (aS hb none) (fun q _ e=>by cases e) (by
  cases e:vv.ownBlock with
  |none=>exact .inl rfl
  |some g=>exact .inr (by simp))
theorem fJ.mono {w:World} {B B':Nat} {F F':Nat→Prop} {vv:Value} {l:List dy} (h:fJ w B F vv l) (hB:B'≤B) (hF:∀q,F q→F' q):fJ w B' F' vv l:=by obtain ⟨xs,G,h1,h2,h3,h4,h5⟩:=h;exact ⟨xs,G,h1,bC hB h2,h3,fun j q hq=>⟨hF q (h4 j q hq).1,(h4 j q hq).2⟩,h5⟩
theorem agA (W:World) (n:Nat) (hn:n≤1000):∃w1,(Instr.makeSlice 27 (.int .i64 0) (.int .i64 n)).run Tryz.prog W=.ok (.slice (some ⟨W.heap.size,0,none⟩) 0 n) w1∧fJ w1 W.heap.size (fun q=>W.heap.size≤q∧q<w1.heap.size∧q≠W.heap.size) (.slice (some ⟨W.heap.size,0,none⟩) 0 n) []∧Bw W w1:=by obtain ⟨i0,hi,hz0,hz1,hz2⟩:=info_parts Rc;obtain ⟨w1,jP,hown,hg⟩:=run_make_own (P:=Tryz.prog) W W.heap.size 27 75 i0 _ 5 Tryz.underlying27 hi hz0 hz1 .i64 .i64 n (by rw[hz2];omega) (by unfold maxLen;omega) aT;exact ⟨w1,jP,⟨[],fun _ _=>False,rfl,hown,fun j x hx=>by simp at hx,fun j q hq=>hq.elim,fun _ _ _ _ h=>h.elim⟩,aH.grown hg aT (fun k e=>by cases e)⟩
theorem fJ.push {w W:World} {B n:Nat} {F K:Nat→Prop} {vv:Value} {l:List dy} {d:dy} {pa pb pc:Option Addr} {na ca nb cb nc cc:Nat} (h:fJ w B F vv l) (hb:Bw w W) (hk:gj W K d.map (.slice pa na ca) (.slice pb nb cb) (.slice pc nc cc)) (hF:∀q,F q→q<w.heap.size) (hK:∀q,K q→w.heap.size≤q∧q<W.heap.size) (hi:aP d.id) (hs:aP d.size) (hn:l.length=n) (hn2:n≤1000) (hB:B≤w.heap.size) :
 ∃g cap w2,(Builtin.append_ #[27,27] 27 #[vv,.slice (some ⟨W.heap.size,0,none⟩) 1 1]).run Tryz.prog (W.alloc (.cells #[.int .i64 d.id,.int .i64 d.size,.slice pa na ca,.slice pb nb cb,.slice pc nc cc] 75))=.ok (.slice (some ⟨g,0,none⟩) (n+1) cap) w2 ∧
  fJ w2 B (fun q=>(F q∨w.heap.size≤q)∧q<w2.heap.size∧q≠g) (.slice (some ⟨g,0,none⟩) (n+1) cap) (l++[d])∧Below B W w2:=by
 have hsz:=hb.size;have h':=h.low hb;obtain ⟨xs,G,h1,h2,h3,h4,h5⟩:=h';obtain ⟨i0,iP,hz0,hz1,hz2⟩:=info_parts Rc;rw[hn] at h2;obtain ⟨g,cap,w2,hrun,hp⟩:=eY 27 75 i0 _ 5 88 Tryz.underlying27 iP hz0 hz1 hz2 rfl (by decide) (by decide) W B n vv (fV xs) [.int .i64 d.id,.int .i64 d.size,.slice pa na ca,.slice pb nb cb,.slice pc nc cc] h2 rfl (by
  intro u hu;simp only[List.mem_cons,List.not_mem_nil,or_false] at hu;rcases hu with rfl|rfl|rfl|rfl|rfl <;> rfl) (by omega) (by omega)
 have hvW:∀q,vv.ownBlock=some q→q<w.heap.size:=fun q e=>by obtain ⟨_,_,_,hr,_⟩:=h;exact (hr.lt q e).2
 have hgs:=hp.grown.size;have hg2:=(hp.row.lt g rfl).2;have uA:xs.length=n:=by rw[← hn,← h1,List.length_map]
 refine ⟨g,cap,w2,hrun,⟨xs++[(d,(.slice pa na ca,.slice pb nb cb,.slice pc nc cc))],fun j q=>if j=n then K q else G j q,by rw[List.map_append,h1];rfl,?_,fun j x hx=>?_,fun j q hq=>?_,fun i j q xS hi hj=>?_⟩,hp.below⟩
 ·rw[List.length_append,hn,uJ];exact hp.row
 ·by_cases e:j<n
  ·rw[List.getElem?_append_left (by omega)] at hx
   simp only[if_neg (show ¬j=n by omega)];exact ⟨(h3 j x hx).1,(h3 j x hx).2.1,(h3 j x hx).2.2.kept hp.grown fun q hq=>(h4 j q hq).2⟩
  ·have hj:=(List.getElem?_eq_some_iff.1 hx).1
   rw[List.length_append] at hj;simp only[List.length_cons,List.length_nil] at hj;obtain rfl:j=n:=by omega
   rw[List.getElem?_append_right (by omega),uA,Nat.sub_self] at hx;simp only[List.getElem?_cons_zero,Option.some.injEq] at hx;subst hx;simp only[if_true];exact ⟨hi,hs,hk.kept hp.grown fun q hq e=>by have:=hvW q e;have:=(hK q hq).1;omega⟩
 ·have hgq:(q<W.heap.size∧vv.ownBlock≠some q)→q≠g:=fun hq e=>by
   rcases hp.at_ with e2|e2
   ·exact hq.2 (by rw[← e2,e];rfl)
   ·omega
  dsimp only at hq
  by_cases e:j=n
  ·rw[if_pos e] at hq
   have h9:=hK q hq;have h10:=hgq ⟨h9.2,fun e=>by have:=hvW q e;omega⟩;exact ⟨⟨.inr h9.1,by omega,h10⟩,fun e=>h10 (Option.some.inj e).symm⟩
  ·rw[if_neg e] at hq
   have h9:=h4 j q hq;have h8:=hF q h9.1;have h10:=hgq ⟨by omega,h9.2⟩;exact ⟨⟨.inl h9.1,by omega,h10⟩,fun e=>h10 (Option.some.inj e).symm⟩
 ·dsimp only at hi hj
  by_cases e:i=n
  ·rw[if_pos e] at hi
   rw[if_neg (fun h=>xS (e.trans h.symm))] at hj;have:=hF q (h4 j q hj).1;have:=(hK q hi).1;omega
  ·rw[if_neg e] at hi
   by_cases e':j=n
   ·rw[if_pos e'] at hj
    have:=hF q (h4 i q hi).1;have:=(hK q hj).1;omega
   ·rw[if_neg e'] at hj
    exact h5 i j q xS hi hj
theorem fJ.at {w:World} {B:Nat} {F:Nat→Prop} {vv:Value} {l:List dy} (h:fJ w B F vv l):eU w vv l:=by
 obtain ⟨xs,G,rfl,hown,hx,_⟩:=h;rw[List.length_map] at hown;rcases aK hown with ⟨hv,hn,_⟩|⟨g,cap,hv⟩
 ·exact ⟨none,0,by rw[hv,List.length_map,hn],by rw[List.length_map];omega,by unfold maxLen;omega,fun i x hx=>by rw[List.eq_nil_of_length_eq_zero hn] at hx;simp at hx⟩
 ·subst hv
  obtain ⟨_,_,_,h3,h4,_⟩:=bp hown;refine ⟨_,cap,by rw[List.length_map],by rw[List.length_map];exact h3,h4,fun i d hd=>?_⟩;rw[List.getElem?_map] at hd;cases vJ:xs[i]? with
  |none=>rw[vJ] at hd;simp at hd
  |some x=>
   rw[vJ] at hd;simp only[Option.map_some,Option.some.injEq] at hd;subst hd;obtain ⟨i1,i2,i3⟩:=hx i x vJ;have hl:=nh xs;have hc:∀j u,(qH x.1 x.2)[j]?=some u→w.cell? ⟨g,0+i*5+j,none⟩=some u:=fun j u hj=>by have h6:=lA xs i x vJ j u hj;obtain ⟨h7,h8⟩:=List.getElem?_eq_some_iff.1 h6;rw[Nat.zero_add,bJ hown (i*5+j) h7,h8]
   exact ⟨i1,i2,g,0,x.2.1,x.2.2.1,x.2.2.2,rfl,hc 0 _ rfl,hc 1 _ rfl,hc 2 _ rfl,hc 3 _ rfl,hc 4 _ rfl,i3.read.keep dh⟩
structure zf (w:World) (B T:Nat) (F:Nat→Prop) (p:bX) (v:PV):Prop where
 disk:bP (mask (fun q=>B≤q∧¬F q) w) p.disk v.k v.c v.p
 av:fJ w B F v.v p.av
 tabs:∃g cap rs,v.t=.slice (some ⟨g,0,none⟩) p.tabs.length cap∧jL w T (.slice (some ⟨g,0,none⟩) p.tabs.length cap) p.tabs.length rs p.tabs
 bt:B≤T
 fl:∀q,F q→B≤q∧q<T
 sz:T≤w.heap.size
 bm:aP p.met
 bg:aP p.gen
 ba:aP p.aD
theorem rF {W:World} {b:Nat} {a0 a1 a2 a3 a4:Value} (h:aJ W b [a0,a1,a2,a3,a4]):W.cell? ⟨b,0,none⟩=some a0∧W.cell? ⟨b,1,none⟩=some a1∧W.cell? ⟨b,2,none⟩=some a2∧W.cell? ⟨b,3,none⟩=some a3∧W.cell? ⟨b,4,none⟩=some a4:=h.five
theorem iF (W:World) (b:Nat) (y0 y1 y2 y3 y4 y5 y6 y7 y8 y9:Value):W.grownBy (cS W b y0 y1 y2 y3 y4 y5 y6 y7 y8 y9) (some b):=by unfold cS;exact aX (aX (aX (aX (aX (aX (aX (aX (aX (aw _ _ _ _) (aw _ _ _ _)) (aw _ _ _ _)) (aw _ _ _ _)) (aw _ _ _ _)) (aw _ _ _ _)) (aw _ _ _ _)) (aw _ _ _ _)) (aw _ _ _ _)) (aw _ _ _ _)
theorem Jh {w w':World} {B n b:Nat} {v:Value} {rs:List wJ} {x:List (List aj)} (h:jL w B v n rs x) (hg:w.grownBy w' (some b)) (hb:b<B):jL w' B v n rs x:=by
 have far:∀ {e:TypeId} {k m:Nat} {u:Value} {ys:List Value},w.ownsRow B e k u m ys→w'.ownsRow B e k u m ys:=fun hr=>hr.kept hg (by
  cases e:Value.ownBlock _ with
  |none=>exact .inl rfl
  |some g=>exact .inr (fun h=>by have:=(hr.lt g e).1;have:=Option.some.inj h;omega))
 exact ⟨h.1,far h.2.1,fun i s t hs ht=>far (h.2.2.1 i s t hs ht),h.2.2.2⟩
theorem Ji {w:World} {B n b j:Nat} {v u:Value} {rs:List wJ} {x:List (List aj)} (h:jL w B v n rs x) (hb:b<B):jL (w.setCell ⟨b,j,none⟩ u) B v n rs x:=Jh h (aw _ _ _ _) hb
theorem Xi (p:bX) (v:PV) (w:World) (h:bh w p v) (hm:cA p=true) (vM:p.disk.keep.length≤1000000):Calls Tryz.prog 26 #[dZ p v] w fun e w'=>∃v' T F,e=.returned (dZ p v')∧zf w' w.heap.size T F p v'∧Bw w w':=by
 obtain ⟨jP,wL,⟨m1,m2⟩,_,_,_,Xj⟩:=bF.1 hm;obtain ⟨⟨kl1,kl2,cl1,_⟩,_,_⟩:=(fW p.disk).1 jP;have hlc:p.tabs.length≤1000:=by unfold cF at wL;simp only[Bool.and_eq_true,decide_eq_true_eq] at wL;exact wL.2.2
 have YP:∀t∈p.tabs,t.length≤1000:=fun t ht=>by unfold cF at wL;simp only[Bool.and_eq_true,List.all_eq_true] at wL;have:=fY (wL.1 t ht);omega
 have hmv:dR p.av=true:=by
  unfold cg at Xj;by_cases e:1≤(p.tabs.length:Int)∧(p.tabs.length:Int)≤1000∧dR p.av=true
  ·exact e.2.2
  ·rw[if_neg e] at Xj;cases Xj
 obtain ⟨hv1,_,hv3⟩:=dw.1 hmv;have abg:=aa (fun d (hd:d∈p.av)=>show bG d.map 0=true by
  have:=hv1 d hd;unfold cI jT at this;simp only[Bool.and_eq_true] at this;exact this.1.2.1.2)
 obtain ⟨pk,nk,ck,pc,nc,cc,pp,np,cp,pv,nv,cv,pt,nt,ct,rfl⟩:=h.sl;obtain ⟨Hj,MK,e1,_,_,_,hk⟩:=h.disk.kept.src ji uN (by decide);obtain ⟨Uu,Uv,e2,_,_,_,hc⟩:=h.disk.cache.src mC uO (by decide);obtain ⟨pp',cp',e3,_,hp⟩:=h.disk.keep.src;simp only[Value.slice.injEq] at e1 e2 e3;obtain ⟨rfl,rfl,rfl⟩:=e1;obtain ⟨rfl,rfl,rfl⟩:=e2;obtain ⟨rfl,rfl,rfl⟩:=e3;have Gu:=aa (fun (W:World) (hb:Bw w W)=>sX pk p.disk.kept.length ck _ W (hk.stays hb) (by omega));have Mz:=aa (fun (W:World) (hb:Bw w W)=>sY pc p.disk.cache.length cc _ W (hc.stays hb) (by omega));have UI:=aa (fun (W:World) (hb:Bw w W)=>rr pp p.disk.keep.length cp _ W (hp.stays hb) (by omega));have fL:=aa h.disk.bd;have JS:=aa (fun (W:World) (hb:Bw w W)=>LQ p.tabs _ W (h.tabs.keep (af hb)) hlc YP);obtain ⟨vp',vc',ev,vl1,vl2,VF⟩:=h.av;simp only[Value.slice.injEq] at ev;obtain ⟨rfl,rfl,rfl⟩:=ev;have HVS:=aa VF;have jr:=aa (And.intro h.bm (And.intro h.bg h.ba));clear h hk hc hp hm vM jP wL hlc YP hmv hv1 Xj VF kl1 kl2 cl1 vl1 m1 m2;obtain ⟨⟨kept,cache,ah,keep,dead⟩,met,gen,aD,av,tabs⟩:=p;simp only at *;obtain ⟨KL,hKL⟩:∃n,kept.length=n:=⟨_,rfl⟩
 obtain ⟨CL,hCL⟩:∃n,cache.length=n:=⟨_,rfl⟩
 obtain ⟨PL,UQ⟩:∃n,keep.length=n:=⟨_,rfl⟩
 obtain ⟨N,hN⟩:∃n,av.length=n:=⟨_,rfl⟩
 rw[hKL] at Gu;rw[hCL] at Mz;rw[UQ] at UI;have vN:=aa hKL;have tG:=aa hCL;have om:=aa UQ;have lz:=aa hN;have aka:N≤64:=by rw[← hN];exact hv3
 have Yr:(N:Int)≤64:=by omega
 unfold dZ;simp only;rw[hKL,hCL,UQ,hN];clear hKL hCL UQ hN hv3;obtain ⟨TL,hTL⟩:∃n,tabs.length=n:=⟨_,rfl⟩
 rw[hTL] at JS;have uy:=aa hTL;clear hTL;obtain ⟨W1,hW1⟩:=aG (((w.alloc (.cells #[.slice pk KL ck,.slice pc CL cc,.int .i64 ah,.slice pp PL cp,.bool dead,.int .i64 met,.int .i64 gen,.int .i64 aD,.slice pv N cv,.slice pt nt ct] 30)).alloc (.cells #[.slice none 0 0,.slice none 0 0,.int .i64 0,.slice none 0 0,.bool false,.int .i64 0,.int .i64 0,.int .i64 0,.slice none 0 0,.slice none 0 0] 30)).alloc (.cells #[.slice pk KL ck,.slice pc CL cc,.int .i64 ah,.slice pp PL cp,.bool dead] 26));have aU:=aa (Ov w [.slice pk KL ck,.slice pc CL cc,.int .i64 ah,.slice pp PL cp,.bool dead,.int .i64 met,.int .i64 gen,.int .i64 aD,.slice pv N cv,.slice pt nt ct] [.slice none 0 0,.slice none 0 0,.int .i64 0,.slice none 0 0,.bool false,.int .i64 0,.int .i64 0,.int .i64 0,.slice none 0 0,.slice none 0 0] [.slice pk KL ck,.slice pc CL cc,.int .i64 ah,.slice pp PL cp,.bool dead] 30 30 26);rw[hW1] at aU;have Ki:=aa (show W1.heap.size=w.heap.size+3 by rw[← hW1];simp);have ed:=aa hW1;clear hW1;go_enter Tryz.func26,Tryz.ntmps26;go_upto_region 2 with fail;rw[ed.o];clear ed;have Wv:=aa aU.1.drew;have HZD:=aa aU.2.1.drew;have NA:=aa aU.2.2.1.drew;have uI:=aa aU.2.2.2.drew;have hds:=rF NA.o;go_region_held3 (fun w'=>w'.cell? ⟨w.heap.size+1+1,0,none⟩=some (.slice pk KL ck)∧w'.cell? ⟨w.heap.size+1+1,1,none⟩=some (.slice pc CL cc)∧w'.cell? ⟨w.heap.size+1+1,2,none⟩=some (.int .i64 ah)∧w'.cell? ⟨w.heap.size+1+1,3,none⟩=some (.slice pp PL cp)∧w'.cell? ⟨w.heap.size+1+1,4,none⟩=some (.bool dead))
  (first|(with_reducible exact hds)|(with_reducible exact rF C2.o)|(with_reducible exact rF U0.o)|(with_reducible exact rF HD4.o)|(with_reducible exact rF (HD4.o.za (by omega) _ _ _ _ _)))
  (first|((with_reducible refine (Gu.o _ uI.o).mono ?_);(rintro e w2 ⟨v2,rfl,ho,hb⟩);(obtain ⟨p2,c2,rfl⟩:=eF ho);(have nM:=aa ho);(have bU:=aV uI hb);(have dY:=aa (Wv.o.below hb));(have ym:=aa (HZD.o.below hb));(have C2:=aa (NA.o.below hb));(clear ho hb))|((with_reducible refine (Mz.o _ bU.o).mono ?_);(rintro e w3 ⟨v3,rfl,ho,hb⟩);(obtain ⟨p3,c3,rfl⟩:=eF ho);(have qD:=aa ho);(have ami:=aa (aM nM.o hb));(have dG:=aV bU hb);(have kK:=aa (dY.o.below hb));(have sK:=aa (ym.o.below hb));(have U0:=aa (C2.o.below hb));(clear ho hb))|((with_reducible refine (UI.o _ dG.o).mono ?_);(rintro e w4 ⟨v4,rfl,ho,hb⟩);(obtain ⟨p4,c4,rfl⟩:=eF ho);(have pP:=aa ho);(have amj:=aa (aM qD.o hb));(have agB:=aa (aM ami.o hb));(have gz:=aV dG hb);(have jQ:=aa (kK.o.below hb));(have qq:=aa (sK.o.below hb));(have HD4:=aa (U0.o.below hb));(have x0:=jQ.o.cell (j:=0) rfl);(have x1:=jQ.o.cell (j:=1) rfl);(have x2:=jQ.o.cell (j:=2) rfl);(have x3:=jQ.o.cell (j:=3) rfl);(have x4:=jQ.o.cell (j:=4) rfl);(have f0:=jQ.o.free 0);(have f1:=jQ.o.free 1);(have f2:=jQ.o.free 2);(have f3:=jQ.o.free 3);(have f4:=jQ.o.free 4);(clear ho hb)))
 obtain ⟨W5,DG⟩:=aG (((((w4.setCell ⟨w.heap.size,0,none⟩ (.slice p2 KL c2)).setCell ⟨w.heap.size,1,none⟩ (.slice p3 CL c3)).setCell ⟨w.heap.size,2,none⟩ (.int .i64 ah)).setCell ⟨w.heap.size,3,none⟩ (.slice p4 PL c4)).setCell ⟨w.heap.size,4,none⟩ (.bool dead));have fQ:=aa (show aJ W5 w.heap.size [.slice p2 KL c2,.slice p3 CL c3,.int .i64 ah,.slice p4 PL c4,.bool dead,.int .i64 met,.int .i64 gen,.int .i64 aD,.slice pv N cv,.slice pt nt ct] by rw[← DG];exact jQ.mZ _ _ _ _ _);have si:=aa (show aJ W5 (w.heap.size+1) [.slice none 0 0,.slice none 0 0,.int .i64 0,.slice none 0 0,.bool false,.int .i64 0,.int .i64 0,.int .i64 0,.slice none 0 0,.slice none 0 0] by rw[← DG];exact qq.za (by omega) _ _ _ _ _);have bA:=aa (show Bw w W5 by rw[← DG];exact cT gz aT _ _ _ _ _);have HDK:=aa (show cZ W5 (w.heap.size+3) ⟨kept,cache,ah,keep,dead⟩ (.slice p2 KL c2) (.slice p3 CL c3) (.slice p4 PL c4) by
  have hs1:W1.drew.heap.size=w.heap.size+3:=Ki.o;have hl2:w.heap.size+3≤w2.heap.size:=by have:=C2.lt;omega
  have B5:w.heap.size+3≤w3.heap.size:=by have:=U0.lt;omega
  rw[← DG];refine (((((cZ.bk ?_ (by omega)).bk (by omega)).bk (by omega)).bk (by omega)).bk (by omega));refine ⟨?_,?_,?_,fL⟩
  ·have h:=agB.out;rw[hs1] at h;rw[vN.o];exact h
  ·rw[tG.o];exact bC hl2 amj.o
  ·rw[om.o];exact bC B5 pP)
 have U3:=aa (show w.heap.size+3≤W5.heap.size from (show aJ W5 (w.heap.size+1+1) _ by rw[← DG];exact HD4.za (by omega) _ _ _ _ _).lt);rw[DG];clear DG x0 x1 x2 x3 x4 f0 f1 f2 f3 f4 hds;have HDM:=aa (show bP (mask (fun q=>w.heap.size+3≤q∧q<W5.heap.size) W5) ⟨kept,cache,ah,keep,dead⟩ (.slice p2 KL c2) (.slice p3 CL c3) (.slice p4 PL c4) from (HDK.at (F:=fun q=>w.heap.size+3≤q) fun q h=>h).keeps (bI fun a u hf hu=>⟨⟨hf,World.block_lt_of_cell? _ _ hu⟩,hu⟩));obtain ⟨w6,jP,agC,cW⟩:=agA W5 N (by omega);have HV6:=aa agC;have cQ:=aa cW;have x8:=fQ.cell (j:=8) rfl;have y8:=ae cQ x8;clear agC cW;go_wp2_with fail;clear jP x8 y8;go_loopw [31,4,6] (fun i o _ wr=>∃(k gr co:Nat) (F:Nat→Prop),k≤N∧i=.int .i64 k∧o=.slice (some ⟨gr,0,none⟩) k co∧fJ wr W5.heap.size F (.slice (some ⟨gr,0,none⟩) k co) (av.take k)∧(∀q,F q→W5.heap.size≤q∧q<wr.heap.size)∧Bw W5 wr) (fun i _ _ _=>N-(intOf i).toNat)
 case atStart=>exact ⟨0,_,_,_,dQ,rfl,rfl,HV6,fun q hq=>⟨hq.1,hq.2.1⟩,cQ⟩
 case round=>
  obtain ⟨k,gr,co,F,hk,rfl,rfl,VF,hfl,hb⟩:=hrel;have HV:=aa VF;have HF:=aa hfl;have HB:=aa hb;have QF:=aa (fQ.below HB);have Ga:=aa (si.below HB);clear VF hfl hb;by_cases hlt:k<N
  case neg=>
   obtain rfl:k=N:=by omega
   have x8:=QF.cell (j:=8) rfl;have f8:=QF.free 8;go_upto_region 11 with fail;obtain ⟨W8,lK⟩:=aG (wr.setCell ⟨w.heap.size,8,none⟩ (.slice (some ⟨gr,0,none⟩) k co));have wI:=aa (show aJ W8 w.heap.size [.slice p2 KL c2,.slice p3 CL c3,.int .i64 ah,.slice p4 PL c4,.bool dead,.int .i64 met,.int .i64 gen,.int .i64 aD,.slice (some ⟨gr,0,none⟩) k co,.slice pt nt ct] by rw[← lK];exact QF.set 8 _);have tR:=aa (show aJ W8 (w.heap.size+1) [.slice none 0 0,.slice none 0 0,.int .i64 0,.slice none 0 0,.bool false,.int .i64 0,.int .i64 0,.int .i64 0,.slice none 0 0,.slice none 0 0] by rw[← lK];exact Ga.far (by omega) _ _);have gQ:=aa (show Bw w W8 by rw[← lK];exact (ak bA HB).setCell (p:=⟨w.heap.size,8,none⟩) aT _);have YC:=aa (show fJ W8 W5.heap.size F (.slice (some ⟨gr,0,none⟩) k co) av by
    rw[← lK];have h:=HV.o;rw[List.take_of_length_le (by rw[lz.o];exact aT)] at h;exact h.kept (aw _ _ _ _) (fun q hq e=>by have:=(HF.o q hq).1;have:=U3.o;have:=Option.some.inj e;omega) (.inr (fun e=>by
     obtain ⟨_,_,_,hr,_⟩:=HV.o;have h1:W5.heap.size≤gr:=(hr.lt gr rfl).1;have:=U3.o;have h2:gr=_:=Option.some.inj e;omega)))
   have J3:=aa (show bP (mask (fun q=>w.heap.size+3≤q∧q<W5.heap.size) W8) ⟨kept,cache,ah,keep,dead⟩ (.slice p2 KL c2) (.slice p3 CL c3) (.slice p4 PL c4) by
    rw[← lK];exact (HDM.keeps (aC HB fun _ _ h=>h)).keeps (aN (b:=w.heap.size) (fun h=>by have:w.heap.size+3≤w.heap.size:=h.1;omega)))
   have Di:=aa (show wr.heap.size≤W8.heap.size by rw[← lK];exact (aw _ _ _ _).size);rw[lK];clear lK x8 f8;have x9:=wI.cell (j:=9) rfl;go_upto_region 12 with (go_at_call 72;(with_reducible refine (JS.o _ gQ.o).mono ?_);rintro e w9 ⟨gt,Cz,rs,rfl,MR,hb⟩;have HT9:=aa MR;have km:=aV gQ hb;have Ol:=aa (wI.o.below hb);have zA:=aa (tR.o.below hb);have HV9:=aa (YC.o.low hb);have J4:=aa (J3.o.keeps (aC hb fun _ _ h=>h));have Fa:=aa hb.size;have y9:=Ol.o.cell (j:=9) rfl;have g9:=Ol.o.free 9;clear MR hb);obtain ⟨WA,kS⟩:=aG (w9.setCell ⟨w.heap.size,9,none⟩ (.slice (some ⟨gt,0,none⟩) TL Cz));have HXA:=aa (show aJ WA w.heap.size [.slice p2 KL c2,.slice p3 CL c3,.int .i64 ah,.slice p4 PL c4,.bool dead,.int .i64 met,.int .i64 gen,.int .i64 aD,.slice (some ⟨gr,0,none⟩) k co,.slice (some ⟨gt,0,none⟩) TL Cz] by rw[← kS];exact Ol.set 9 _);have Xk:=aa (show aJ WA (w.heap.size+1) [.slice none 0 0,.slice none 0 0,.int .i64 0,.slice none 0 0,.bool false,.int .i64 0,.int .i64 0,.int .i64 0,.slice none 0 0,.slice none 0 0] by rw[← kS];exact zA.far (by omega) _ _);have yP:=aa (show Bw w WA by rw[← kS];exact km.setCell (p:=⟨w.heap.size,9,none⟩) aT _);have RA:=aa (show w.heap.size+3≤W8.heap.size by have:=Di.o;have:=U3.o;have:=HB.size;omega);have HVA:=aa (show fJ WA W5.heap.size F (.slice (some ⟨gr,0,none⟩) k co) av by
    rw[← kS];exact HV9.kept (aw _ _ _ _) (fun q hq e=>by have:=(HF.o q hq).1;have:=U3.o;have:=Option.some.inj e;omega) (.inr (fun e=>by
     obtain ⟨_,_,_,hr,_⟩:=HV.o;have h1:W5.heap.size≤gr:=(hr.lt gr rfl).1;have:=U3.o;have h2:gr=_:=Option.some.inj e;omega)))
   have Wx:=aa (show bP (mask (fun q=>w.heap.size+3≤q∧q<W5.heap.size) WA) ⟨kept,cache,ah,keep,dead⟩ (.slice p2 KL c2) (.slice p3 CL c3) (.slice p4 PL c4) by
    rw[← kS];exact J4.keeps (aN (b:=w.heap.size) (fun h=>by have:w.heap.size+3≤w.heap.size:=h.1;omega)))
   have HTA:=aa (show jL WA W8.heap.size (.slice (some ⟨gt,0,none⟩) TL Cz) TL rs tabs by
    rw[← kS];exact Ji HT9 (by have:=RA.o;omega))
   have gG:=aa (show W8.heap.size≤WA.heap.size by rw[← kS];exact Nat.le_trans Fa (aw _ _ _ _).size);rw[kS];clear kS x9 y9 g9;obtain ⟨a0,a1,a2,a3,a4,a5,a6,a7,a8,a9⟩:=HXA.ten;obtain ⟨z0,z1,z2,z3,z4,z5,z6,z7,z8,z9⟩:=Xk.ten;obtain ⟨f0,f1,f2,f3,f4,f5,f6,f7,f8,f9⟩:=Xk.fj;go_wp2_with fail;have Xb:=aa (Xk.cS (.slice p2 KL c2) (.slice p3 CL c3) (.int .i64 ah) (.slice p4 PL c4) (.bool dead) (.int .i64 met) (.int .i64 gen) (.int .i64 aD) (.slice (some ⟨gr,0,none⟩) k co) (.slice (some ⟨gt,0,none⟩) TL Cz));have HME:=aa (Wx.keeps (cU (b:=w.heap.size+1) (fun h=>by have:w.heap.size+3≤w.heap.size+1:=h.1;omega) (.slice p2 KL c2) (.slice p3 CL c3) (.int .i64 ah) (.slice p4 PL c4) (.bool dead) (.int .i64 met) (.int .i64 gen) (.int .i64 aD) (.slice (some ⟨gr,0,none⟩) k co) (.slice (some ⟨gt,0,none⟩) TL Cz)));have agD:=aa (ew yP (b:=w.heap.size+1) (by omega) (.slice p2 KL c2) (.slice p3 CL c3) (.int .i64 ah) (.slice p4 PL c4) (.bool dead) (.int .i64 met) (.int .i64 gen) (.int .i64 aD) (.slice (some ⟨gr,0,none⟩) k co) (.slice (some ⟨gt,0,none⟩) TL Cz));have vV:=aa (iF WA (w.heap.size+1) (.slice p2 KL c2) (.slice p3 CL c3) (.int .i64 ah) (.slice p4 PL c4) (.bool dead) (.int .i64 met) (.int .i64 gen) (.int .i64 aD) (.slice (some ⟨gr,0,none⟩) k co) (.slice (some ⟨gt,0,none⟩) TL Cz));have hze:=Xb.o;unfold cS at HME agD vV hze;obtain ⟨g0,g1,g2,g3,g4,g5,g6,g7,g8,g9⟩:=hze.ten;refine au (v:=.agg #[.slice p2 KL c2,.slice p3 CL c3,.int .i64 ah,.slice p4 PL c4,.bool dead,.int .i64 met,.int .i64 gen,.int .i64 aD,.slice (some ⟨gr,0,none⟩) k co,.slice (some ⟨gt,0,none⟩) TL Cz]) ⟨⟨.slice p2 KL c2,.slice p3 CL c3,.slice p4 PL c4,.slice (some ⟨gr,0,none⟩) k co,.slice (some ⟨gt,0,none⟩) TL Cz⟩,W8.heap.size,F,rfl,⟨?_,?_,?_,?_,?_,?_,jr.1,jr.2.1,jr.2.2⟩,agD⟩ ?_
   ·exact HME.keeps (aW fun q hq=>⟨by have:=hq.1;omega,fun h=>by have:=(HF.o q h).1;have:=hq.2;omega⟩)
   ·exact (HVA.kept vV (fun q hq e=>by have:=(HF.o q hq).1;have:=U3.o;have:=Option.some.inj e;omega) (.inr (fun e=>by
     obtain ⟨_,_,_,hr,_⟩:=HV.o;have h1:W5.heap.size≤gr:=(hr.lt gr rfl).1;have:=U3.o;have h2:gr=_:=Option.some.inj e;omega))).mono (by have:=U3.o;omega) fun q h=>h
   ·exact ⟨gt,Cz,rs,by rw[uy.o],by rw[uy.o];exact Jh HTA vV (by have:=RA.o;omega)⟩
   ·have:=RA.o;omega
   ·intro q hq;have h9:=HF.o q hq;have:=U3.o;have:=Di.o;exact ⟨by omega,by omega⟩
   ·exact Nat.le_trans gG vV.size
   ·simp[results,Tryz.results26,go_sem,g0,g1,g2,g3,g4,g5,g6,g7,g8,g9]
  case pos=>
   have fO:(k:Int)<(N:Int):=(by omega);obtain ⟨d,hd⟩:=fy (l:=av) (k:=k) (by rw[lz.o];exact hlt);obtain ⟨Pd,pX,gv,ov,ta,tb,tc,rfl,k0,k1,k2,k3,k4,hn⟩:=HVS.o k d hd;obtain ⟨qa,na,ka,qb,nb,kb,qc,nc,kc,rfl,rfl,rfl⟩:=bc hn;have hbr:=ak bA HB.o;have q0:=ae hbr k0;have q1:=ae hbr k1;have q2:=ae hbr k2;have q3:=ae hbr k3;have q4:=ae hbr k4;have HN:=aa (hn.keep (af hbr));have HD:=aa hd;have HI:=aa (And.intro Pd pX);have HSD:=aa (abg.o d (List.mem_of_getElem? hd));clear hn k0 k1 k2 k3 k4 hd Pd pX hbr;go_upto_region 7 with fail;have kB:=aa (aJ.new wr [.int .i64 d.id,.int .i64 d.size,.slice qa na ka,.slice qb nb kb,.slice qc nc kc] 75);have abj:=aa (show Bw wr (wr.alloc (.cells #[.int .i64 d.id,.int .i64 d.size,.slice qa na ka,.slice qb nb kb,.slice qc nc kc] 75)) from aq);have Dh:=aa (show (wr.alloc (.cells #[.int .i64 d.id,.int .i64 d.size,.slice qa na ka,.slice qb nb kb,.slice qc nc kc] 75)).heap.size=wr.heap.size+1 from World.size_alloc _ _);obtain ⟨W6,oQ⟩:=aG (wr.alloc (.cells #[.int .i64 d.id,.int .i64 d.size,.slice qa na ka,.slice qb nb kb,.slice qc nc kc] 75));rw[show wr.alloc (.cells [.int .i64 d.id,.int .i64 d.size,.slice qa na ka,.slice qb nb kb,.slice qc nc kc].toArray 75)=W6 from oQ] at kB;rw[oQ] at abj Dh ⊢;have Yq:=aa (HN.keep (af abj));obtain ⟨b0,b1,b2,b3,b4⟩:=kB.five;clear oQ q0 q1 q2 q3 q4;go_upto_region 8 with (go_at_call 71;(with_reducible refine (Jf d.map _ _ _ 0 _ Yq.o HSD.o).mono ?_);rintro e w7 ⟨x7,y7,z7,rfl,ho,hb⟩;obtain ⟨ra,ma,ja,rb,mb,jb,rc,mc,jc,rfl,rfl,rfl⟩:=ho.slices;have pY:=aa ho;have fg:=aa (ak abj.o hb);have ly:=aa (kB.o.below hb);have c2':=ly.o.cell (j:=2) rfl;have c3':=ly.o.cell (j:=3) rfl;have c4':=ly.o.cell (j:=4) rfl;have e2:=ly.o.free 2;have e3:=ly.o.free 3;have e4:=ly.o.free 4;clear ho hb b0 b1 b2 b3 b4);obtain ⟨W8,lK⟩:=aG (((w7.setCell ⟨wr.heap.size,2,none⟩ (.slice ra ma ja)).setCell ⟨wr.heap.size,3,none⟩ (.slice rb mb jb)).setCell ⟨wr.heap.size,4,none⟩ (.slice rc mc jc));have hg8:w7.grownBy W8 (some wr.heap.size):=by rw[← lK];exact aX (aX (aw _ _ _ _) (aw _ _ _ _)) (aw _ _ _ _)
   have wI:=aa (show aJ W8 wr.heap.size [.int .i64 d.id,.int .i64 d.size,.slice ra ma ja,.slice rb mb jb,.slice rc mc jc] by rw[← lK];exact ((ly.set 2 (.slice ra ma ja)).set 3 (.slice rb mb jb)).set 4 (.slice rc mc jc));have gQ:=aa (show Bw wr W8 by rw[← lK];exact ((fg.setCell (p:=⟨wr.heap.size,2,none⟩) aT _).setCell (p:=⟨wr.heap.size,3,none⟩) aT _).setCell (p:=⟨wr.heap.size,4,none⟩) aT _);have hO8:=pY.kept hg8 (fun q hq e=>by have h1:=hq.1;have:=Dh.o;have:=Option.some.inj e;omega);have amm:=hg8.size;obtain ⟨g9,c9,w9,hrun,hv9,kp⟩:=HV.push gQ hO8 (fun q hq=>(HF q hq).2) (fun q hq=>by have h1:=hq.1;have h2:=hq.2;have:=Dh.o;exact ⟨by omega,by omega⟩) HI.1 HI.2 (n:=k) (by rw[List.length_take,lz.o];omega) (by omega) HB.size;have dM:=aa hrun;have km:=aa kp;have HV9:=aa (show fJ w9 W5.heap.size (fun q=>(F q∨wr.heap.size≤q)∧q<w9.heap.size∧q≠g9) (.slice (some ⟨g9,0,none⟩) (k+1) c9) (av.take (k+1)) by rw[List.take_add_one,HD.o,Option.toList_some];exact hv9);rw[lK];obtain ⟨b0,b1,b2,b3,b4⟩:=wI.five;clear lK hg8 hO8 amm hrun hv9 kp c2' c3' c4' e2 e3 e4;go_wp2_with (at_builtin;refine Lib.wpList_append_run _ rfl _ _ _ _ rfl _ _ rfl rfl _ _ dM.o ?_);go_roundw
   case rel=>exact ⟨k+1,g9,c9,_,by omega,by go_num,rfl,HV9.o,fun q hq=>⟨by rcases hq.1 with h|h;exact (HF.o q h).1;have:=HB.o.size;omega,hq.2.1⟩,(HB.o.trans (gQ.o.mono HB.o.size)).trans km.o⟩
   case measure=>simp[intOf];omega
end Go.Proofs.YtbigkioechkngaaGreat
namespace Go.Proofs.YtbigkioechkngaaGreat
open Go.RowKit Go.Shelf
attribute [local go_sem] Oper.semAt_some
def TU (x:aA×Int):Array Value := #[x.1.agg,.int .i64 x.2]
theorem rG (p:Option Addr) (m c:Nat) (n:Int) (w:World):Calls Tryz.prog 27 #[.slice p m c,.int .i64 n] w fun e w'=>e=.returned (.func (.func 73) #[] #[.pointer (some ⟨w.heap.size,0,none⟩),.pointer (some ⟨w.heap.size+1,0,none⟩)]) ∧
 w'=(w.alloc (.cells #[.slice p m c] 27)).alloc (.cells #[.int .i64 n] 3):=by
 go_enter Tryz.func27,Tryz.ntmps27;go_wp2_with fail;go_ret;exact ⟨rfl,rfl⟩
theorem LR {l:List dy} {k:Nat} {p:az} (h:(aY l)[k]?=some p):sD p.1=true:=by
 by_cases hm:dR l=true
 ·exact (wB hm p (List.mem_of_getElem? h)).1
 ·unfold aY at h
  rw[if_neg hm] at h;simp at h
theorem PT {n:Int} (h:sD n=true) (c p s:Int) (k:Bool) (hx:bM n=⟨c,p,s,k⟩) (w:World):Calls Tryz.prog 75 #[.int .i64 n] w fun e w'=>e=.returned (.tuple #[.agg #[.int .i64 c,.int .i64 p,.int .i64 s,.bool k],.bool true])∧Bw w w':=by have hb:=EH h;refine (vT n (by omega) (by omega) w).mono ?_;rintro e w' ⟨rfl,hb⟩;refine ⟨?_,hb⟩;unfold Kb;rw[if_pos h,h,hx];rfl
theorem uf (k0 B:Nat) (M₀:Nat→Prop) (l:List dy) (n:Int) (vv:Value) (w:World) (hv:eU w vv l) (ls:bO l) (h1:w.cell? ⟨B,0,none⟩=some vv) (h2:w.cell? ⟨B+1,0,none⟩=some (.int .i64 n)) (hB:M₀ (B+1)) :
 NB k0 Tryz.prog 73 #[.pointer (some ⟨B,0,none⟩),.pointer (some ⟨B+1,0,none⟩)] TU M₀ (br l n) w:=by
 obtain ⟨L,hL⟩:=aG (aY l);have JN:=aa (fun k p (h:L[k]?=some p)=>LR (l:=l) (k:=k) (p:=p) (by rw[hL];exact h));unfold br;rw[hL];intro i J Jx W hW Ms hJ2 hY h0;have y1:=ae hW h1;have ow:=aa (ae hW h2);have HCT:=aa (GZ l vv W (hv.keep (af hW)) ls);obtain ⟨pv,nv,cv,rfl⟩:∃p n c,vv=.slice p n c:=by obtain ⟨p,c,e,_⟩:=hv;exact ⟨p,_,c,e⟩
 have H1:=aa Ms;have HY:=aa hY;have H0:=aa h0;have zr:=aa hB;have ou:=aa hL;clear hv ls h1 h2 hB hW Ms hJ2 hY h0 hL;refine callsIn_of_wp Tryz.func73 rfl trivial ?_ rfl;simp only[Tryz.ntmps73,List.size_toArray,List.length_cons,List.length_nil,Nat.reduceAdd,Nat.reduceSub,Array.replicate_succ,Array.replicate_zero,List.push_toArray,List.append_toArray,List.nil_append,List.cons_append];gi_wp2_with fail;refine ⟨trivial,fun h=>(by cases h),?_⟩;refine (callsIn_wide.2 HCT.o).mono ?_;rintro e W2 ⟨v,rfl,Rk,kT,hb⟩;rw[ou.o] at Rk;obtain ⟨p,cap,rfl,agE,aaA,lq⟩:=Rk;have jP:∀b,M₀ b∨(W.heap.size≤b∧b<W2.heap.size)→M₀ b∨(W.heap.size≤b∧b<W2.heap.size):=fun b h=>h;have HJ:=aa (show J (fun b=>M₀ b∨(W.heap.size≤b∧b<W2.heap.size)) [] W2 from H1.o M₀ _ [] W W2 H0.o (aS hb none) (fun b hb=>hb));have HC:=aa (fun i x (hx:L[i]?=some x)=>show ∃g o,p=some ⟨g,o,none⟩∧(W.heap.size≤g∧g<W2.heap.size)∧W2.cell? ⟨g,o+i*2,none⟩=some (.int .i64 x.1)∧W2.cell? ⟨g,o+i*2+1,none⟩=some (.int .i64 x.2) by
  obtain ⟨g,o,e,c1,c2⟩:=lq i x hx;subst e;exact ⟨g,o,rfl,⟨kT g rfl,World.block_lt_of_cell? _ _ c1⟩,c1,c2⟩)
 have YW:=aa (ae hb ow.o);obtain ⟨N,hN⟩:=aG L.length;have lz:=aa hN;rw[hN] at agE ⊢;have hlc:=fK (n:=N) aaA;clear hb y1 hN agE aaA lq kT jP;gi_wp2_with fail;gi_loopw [11,5,6,7] (fun i _ _ _ wr=>∃(k:Nat) (pre:List (aA×Int)),k≤N∧i=.int .i64 k∧fI L n=pre++fI (L.drop k) n∧J (fun b=>M₀ b∨(W.heap.size≤b∧b<W2.heap.size)) pre wr∧fA (fun b=>M₀ b∨(W.heap.size≤b∧b<W2.heap.size)) W2 wr) (fun i _ _ _ _=>N-(intOf i).toNat)
 case atStart=>exact ⟨0,[],dQ,rfl,rfl,HJ.o,fA.refl _ _⟩
 case round=>
  obtain ⟨k,pre,hk,rfl,heq,hj,tF⟩:=hrel;have CR:=aa hj;have kg:=aa tF;have xT:=aa heq;clear hj tF heq;by_cases hlt:k<N
  case neg=>
   obtain rfl:k=N:=by omega
   have HT:=aa (show fI L n=pre by rw[xT.o,Pt (by rw[lz.o];exact aT),List.append_nil]);gi_wp2_with fail;go_end0;exact ⟨⟨_,rfl⟩,Or.inl ⟨_,by have:=CR.o;rw[HT.o];exact this⟩⟩
  have fO:(k:Int)<(N:Int):=by omega
  obtain ⟨x,hx⟩:=fy (l:=L) (k:=k) (by rw[lz.o];exact hlt);obtain ⟨g,o,rfl,Y9,c0,c1⟩:=HC.o k x hx;have r0:=kg.o.cell (.inr Y9) c0;have r1:=kg.o.cell (.inr Y9) c1;have sn:=kg.o.cell (.inl zr.o) YW.o;have UK:=JN.o k x hx;obtain ⟨ho1,ho2⟩:=EH UK;have HX:=aa hx;clear hx c0 c1 Y9;obtain ⟨v,cnt⟩:=x;obtain ⟨⟨xc,xp,xs,xk⟩,hxr⟩:∃y,bM v=y:=⟨_,rfl⟩
  have HOF:=aa (fun W=>PT UK xc xp xs xk hxr W);have QF:=aa hxr;have amo:=aa UK;simp only at r0 r1 ho1 ho2;have dG:=aa (show Bw wr (wr.alloc (.cells #[.int .i64 v,.int .i64 cnt] 82)) from aq);have HQ3:=aa (aJ.new wr [.int .i64 v,.int .i64 cnt] 82);have q0:=HQ3.o.cell (j:=0) rfl;clear UK hxr;gi_wp2_with fail;refine ⟨trivial,fun h=>(by cases h),?_⟩;refine (callsIn_wide.2 (HOF.o _)).mono ?_;rintro e w5 ⟨rfl,aR⟩;have bA:=aV dG aR;have cQ:=aa (show Bw wr (w5.alloc (.cells #[.int .i64 xc,.int .i64 xp,.int .i64 xs,.bool xk] 50)) from bA.o.alloc bA.o.size _);have q1:=((HQ3.o.below aR).alloc (.cells #[.int .i64 xc,.int .i64 xp,.int .i64 xs,.bool xk] 50)).cell (j:=1) rfl;have sn6:=ae cQ.o sn;clear aR q0 r0 r1 sn;by_cases hch:xc=n
  case neg=>
   have hd:(xc==n)=false:=(by simpa using hch);have wC:=aa (show fI L n=pre++fI (L.drop (k+1)) n by rw[xT.o,TF HX.o (by rw[QF.o];exact hch)]);clear hch;gi_wp2_with fail
   case h_2=>
    refine ⟨fun f h=>(by cases h),?_⟩;gi_wp2_with fail;go_roundw
    case rel=>exact ⟨k+1,pre,by omega,by go_num,wC.o,H1.o _ _ _ _ _ CR.o (aS cQ.o none) (fun b hb=>.inl hb),kg.o.trans (fA.grown (aS cQ.o none) (fun r e=>by cases e))⟩
    case measure=>simp[intOf];omega
  case pos=>
   subst hch;have hd:(xc==xc)=true:=by simp
   have wC:=aa (show fI L xc=(pre++[(⟨xc,xp,xs,xk⟩,cnt)])++fI (L.drop (k+1)) xc by rw[xT.o,Ps HX.o amo.o (by rw[QF.o]),QF.o,List.append_assoc];rfl);have hj6:J (fun b=>M₀ b∨(W.heap.size≤b∧b<W2.heap.size)) pre (w5.alloc (.cells #[.int .i64 xc,.int .i64 xp,.int .i64 xs,.bool xk] 50)):=H1.o _ _ _ _ _ CR.o (aS cQ.o none) (fun b hb=>.inl hb);have HK6:=aa (kg.o.trans (fA.grown (aS cQ.o none) (fun r e=>by cases e)));obtain ⟨fn,tmps,assign,body,Rt,hR⟩:=HY.o (k0-1) _ _ (⟨xc,xp,xs,xk⟩,cnt) _ hj6 (by rw[wC.o];exact List.prefix_append _ _);simp only[TU,aA.agg] at Rt;clear hj6;gi_wp2_with fail;refine ⟨fun h=>(by cases h),?_⟩;refine hR.mono ?_;rintro e W4 (⟨rfl,Mu,hk4⟩|⟨rfl,Mv⟩)
   ·have Rx:=aa Mu;have NF:=aa (HK6.o.trans hk4)
    clear Mu hk4 q1 sn6;gi_wp2_with fail;go_roundw
    case rel=>exact ⟨k+1,pre++[(⟨xc,xp,xs,xk⟩,cnt)],by omega,by go_num,wC.o,Rx.o,NF.o⟩
    case measure=>simp[intOf];omega
   ·have jQ:=aa Mv
    clear Mv q1 sn6;gi_wp2_with fail;refine bodyPost_ret (results_none rfl _ _ _) rfl ?_;exact ⟨⟨_,rfl⟩,Or.inr ⟨pre++[(⟨xc,xp,xs,xk⟩,cnt)],by rw[wC.o];exact List.prefix_append _ _,jQ.o⟩⟩
def il:List Value:=[.slice none 0 0,.slice none 0 0,.int .i64 0,.slice none 0 0,.bool false,.int .i64 0,.int .i64 0,.int .i64 0,.slice none 0 0,.slice none 0 0]
structure sL (w W3:World) (tj:List Value) (n:Int) (W:World):Prop where
 dg:dr (fun q=>q<w.heap.size+4) W3 W
 p2:aJ W w.heap.size tj
 n3:aJ W (w.heap.size+1) [.int .i64 n]
 r4:aJ W (w.heap.size+1+1) il
 r5:aJ W (w.heap.size+1+1+1) [.int .i64 0]
 below:Bw w W
 three:w.heap.size+4≤W3.heap.size
theorem sL.kept {w W3 A C:World} {tj:List Value} {n:Int} {row:Option Nat} (h:sL w W3 tj n A) (hg:A.grownBy C row) (hr:∀r,row=some r→W3.heap.size≤r):sL w W3 tj n C:=by
 have h3:=h.three;have hne:∀b,b<w.heap.size+4→some b≠row:=fun b hb e=>by have:=hr b e.symm;omega
 have hs:=h.dg.size;refine ⟨⟨hg.os.trans h.dg.os,hg.tape.trans h.dg.tape,hg.output.trans h.dg.output,Nat.le_trans hs hg.size,fun k hk hz=>(hg.block k (by omega) (fun e=>by have:=hr k e.symm;omega)).trans (h.dg.block k hk hz)⟩,h.p2.grown hg (hne _ (by omega)),h.n3.grown hg (hne _ (by omega)),h.r4.grown hg (hne _ (by omega)),h.r5.grown hg (hne _ (by omega)),?_,h3⟩;have hb:=h.below;exact ⟨hg.os.trans hb.os,hg.tape.trans hb.tape,hg.output.trans hb.output,Nat.le_trans hb.size hg.size,fun k hk=>(hg.block k (by have:=hb.size;omega) (hne _ (by omega))).trans (hb.block k hk)⟩
theorem sL.low {w W3 A C:World} {tj:List Value} {n:Int} (h:sL w W3 tj n A) (hb:Bw A C):sL w W3 tj n C:=h.kept (aS hb none) (fun r e=>by cases e)
theorem sL.iq {w W3 A C:World} {tj:List Value} {n:Int} {Z:Nat→Prop} (h:sL w W3 tj n A) (hz:dr Z A C) (hZ:∀q,Z q→W3.heap.size≤q):sL w W3 tj n C:=by
 have h3:=h.three;have hs:=h.dg.size;have hb:=h.below;have blk:∀ {b:Nat} {cs:List Value},b<w.heap.size+4→aJ A b cs→aJ C b cs:=fun hlt hk=>by have hl:=hk.lt;obtain ⟨T,e⟩:=hk;exact ⟨T,(hz.block _ hl (fun h=>by have:=hZ _ h;omega)).trans e⟩
 refine ⟨⟨hz.os.trans h.dg.os,hz.tape.trans h.dg.tape,hz.output.trans h.dg.output,Nat.le_trans hs hz.size,fun k hk hn=>(hz.block k (by omega) (fun h=>by have:=hZ _ h;omega)).trans (h.dg.block k hk hn)⟩,blk (by omega) h.p2,blk (by omega) h.n3,blk (by omega) h.r4,blk (by omega) h.r5,?_,h3⟩;exact ⟨hz.os.trans hb.os,hz.tape.trans hb.tape,hz.output.trans hb.output,Nat.le_trans hb.size hz.size,fun k hk=>(hz.block k (by have:=hb.size;omega) (fun h=>by have:=hZ _ h;omega)).trans (hb.block k hk)⟩
theorem fJ.same {w w':World} {B:Nat} {F:Nat→Prop} {vv:Value} {l:List dy} (h:fJ w B F vv l) (hF:∀q,F q→B≤q) (hs:∀q,B≤q→q<w.heap.size→w'.heap[q]?=w.heap[q]?):fJ w' B F vv l:=by obtain ⟨xs,G,h1,h2,h3,h4,h5⟩:=h;exact ⟨xs,G,h1,gm h2 (fun g e hl=>hs g (h2.lt g e).1 hl),fun j x hx=>⟨(h3 j x hx).1,(h3 j x hx).2.1,(h3 j x hx).2.2.same fun q hq hl=>hs q (hF q (h4 j q hq).1) hl⟩,h4,h5⟩
theorem zf.same {w w':World} {B T:Nat} {F:Nat→Prop} {p:bX} {v:PV} (h:zf w B T F p v) (hs:∀q,B≤q→q<w.heap.size→w'.heap[q]?=w.heap[q]?) (hsz:w.heap.size≤w'.heap.size):zf w' B T F p v:=by
 obtain ⟨g,cap,rs,e,ht⟩:=h.tabs;refine ⟨h.disk.keeps (fun a u hu=>?_),h.av.same (fun q hq=>(h.fl q hq).1) hs,⟨g,cap,rs,e,?_⟩,h.bt,h.fl,Nat.le_trans h.sz hsz,h.bm,h.bg,h.ba⟩
 ·obtain ⟨h1,h2⟩:=ar.1 hu
  exact ar.2 ⟨h1,(World.cell?_of_block (hs a.block h1.1 (World.block_lt_of_cell? _ _ h2))).trans h2⟩
 ·have UF:=h.bt
  exact ⟨ht.1,gm ht.2.1 (fun g e hl=>hs g (by have:=(ht.2.1.lt g e).1;omega) hl),fun i s t hi hj=>gm (ht.2.2.1 i s t hi hj) (fun g e hl=>hs g (by have:=((ht.2.2.1 i s t hi hj).lt g e).1;omega) hl),ht.2.2.2⟩
theorem zf.tin {w:World} {B T:Nat} {F:Nat→Prop} {p:bX} {v:PV} (h:zf w B T F p v):fe w (fun q=>T≤q∧q<w.heap.size) v.t p.tabs:=by obtain ⟨g,cap,rs,e,ht⟩:=h.tabs;rw[e];exact mJ.tin (.inr ⟨g,cap,rs,rfl,ht⟩)
theorem zf.at {w:World} {B T:Nat} {F:Nat→Prop} {p:bX} {v:PV} (h:zf w B T F p v):bh w p v:=
 ⟨h.disk.keeps dh,h.av.at,h.tin.at.keep dh,h.bm,h.bg,h.ba⟩
theorem ug (W:World) (b:Nat) (y0 y1 y2 y3 y4 y5 y6 y7 y8 y9:Value) {Z:Nat→Prop} (h:Z b):dr Z W (cS W b y0 y1 y2 y3 y4 y5 y6 y7 y8 y9):=dr.gJ (iF W b y0 y1 y2 y3 y4 y5 y6 y7 y8 y9) (fun r e=>by cases e;exact h)
theorem sL.out {w W3 W:World} {tj:List Value} {n:Int} (h:sL w W3 tj n W) (y0 y1 y2 y3 y4 y5 y6 y7 y8 y9 c:Value) :
 aJ ((cS W (w.heap.size+1+1) y0 y1 y2 y3 y4 y5 y6 y7 y8 y9).setCell ⟨w.heap.size+1+1+1,0,none⟩ c) (w.heap.size+1+1) [y0,y1,y2,y3,y4,y5,y6,y7,y8,y9] ∧
 aJ ((cS W (w.heap.size+1+1) y0 y1 y2 y3 y4 y5 y6 y7 y8 y9).setCell ⟨w.heap.size+1+1+1,0,none⟩ c) (w.heap.size+1+1+1) [c] ∧
 dr (fun q=>w.heap.size≤q∧q<w.heap.size+4) W ((cS W (w.heap.size+1+1) y0 y1 y2 y3 y4 y5 y6 y7 y8 y9).setCell ⟨w.heap.size+1+1+1,0,none⟩ c):=by
 refine ⟨(aJ.cS h.r4 y0 y1 y2 y3 y4 y5 y6 y7 y8 y9).far (by omega) _ _,(h.r5.grown (iF W (w.heap.size+1+1) y0 y1 y2 y3 y4 y5 y6 y7 y8 y9) (fun e=>by have:=Option.some.inj e;omega)).set 0 c,(ug W _ y0 y1 y2 y3 y4 y5 y6 y7 y8 y9 ⟨by omega,by omega⟩).trans (dr.gJ (aw _ _ 0 c) (fun r e=>by cases e;exact ⟨by omega,by omega⟩))⟩
theorem Xl {w W:World} (h4:aJ W (w.heap.size+1+1) il) (h5:aJ W (w.heap.size+1+1+1) [.int .i64 0]) (y0 y1 y2 y3 y4 y5 y6 y7 y8 y9 c:Value) :
 aJ ((cS W (w.heap.size+1+1) y0 y1 y2 y3 y4 y5 y6 y7 y8 y9).setCell ⟨w.heap.size+1+1+1,0,none⟩ c) (w.heap.size+1+1) [y0,y1,y2,y3,y4,y5,y6,y7,y8,y9] ∧
 aJ ((cS W (w.heap.size+1+1) y0 y1 y2 y3 y4 y5 y6 y7 y8 y9).setCell ⟨w.heap.size+1+1+1,0,none⟩ c) (w.heap.size+1+1+1) [c] ∧
 dr (fun q=>w.heap.size≤q∧q<w.heap.size+4) W ((cS W (w.heap.size+1+1) y0 y1 y2 y3 y4 y5 y6 y7 y8 y9).setCell ⟨w.heap.size+1+1+1,0,none⟩ c):=by
 refine ⟨(aJ.cS h4 y0 y1 y2 y3 y4 y5 y6 y7 y8 y9).far (by omega) _ _,(h5.grown (iF W (w.heap.size+1+1) y0 y1 y2 y3 y4 y5 y6 y7 y8 y9) (fun e=>by have:=Option.some.inj e;omega)).set 0 c,(ug W _ y0 y1 y2 y3 y4 y5 y6 y7 y8 y9 ⟨by omega,by omega⟩).trans (dr.gJ (aw _ _ 0 c) (fun r e=>by cases e;exact ⟨by omega,by omega⟩))⟩
theorem dr.Fu {Z:Nat→Prop} {w W W':World} (h:dr Z W W') (hb:Bw w W) (hZ:∀q,Z q→w.heap.size≤q):Bw w W':=
 ⟨h.os.trans hb.os,h.tape.trans hb.tape,h.output.trans hb.output,Nat.le_trans hb.size h.size,fun k hk=>(h.block k (by have:=hb.size;omega) (fun hz=>by have:=hZ k hz;omega)).trans (hb.block k hk)⟩
theorem aJ.settled {B:Nat} {W W':World} {b:Nat} {cs:List Value} (h:aJ W b cs) (hs:rT B W W'):aJ W' b cs:=by obtain ⟨T,h⟩:=h;exact ⟨T,hs.2 b _ h rfl⟩
theorem PU (W:World):bh W ET ⟨.slice none 0 0,.slice none 0 0,.slice none 0 0,.slice none 0 0,.slice none 0 0⟩:=
 ⟨oF _,⟨none,0,rfl,aT,by unfold maxLen;omega,fun i x hx=>by simp[ET] at hx⟩,rY _,by show aP 0;unfold aP;omega,by show aP 0;unfold aP;omega,by show aP 0;unfold aP;omega⟩
theorem ch5 (W:World) (tv vv:Value) (n:Int) (W5:World) (h:((((W.alloc (.map #[] 0)).alloc (.cells #[.map (some W.heap.size)] 58)).alloc (.cells #[tv] 28)).alloc (.cells #[vv] 27)).alloc (.cells #[.int .i64 n] 3)=W5) :
 jz W5 W.heap.size 0 (fun _=>none)∧aJ W5 (W.heap.size+1) [.map (some W.heap.size)]∧aJ W5 (W.heap.size+1+1) [tv]∧aJ W5 (W.heap.size+1+1+1) [vv]∧aJ W5 (W.heap.size+1+1+1+1) [.int .i64 n]∧W5.heap.size=W.heap.size+5∧Bw W W5:=by
 subst h;obtain ⟨h1,h2,h3,h4,hb⟩:=WN (W.alloc (.map #[] 0)) [.map (some W.heap.size)] [tv] [vv] [.int .i64 n] 58 28 27 3;rw[World.size_alloc] at h1 h2 h3 h4;exact ⟨(jz.new W).below hb,h1,h2,h3,h4,by simp,(aq).trans (hb.mono (by simp))⟩
theorem fe.Nd {A C:World} {Z:Nat→Prop} {v:Value} {c:List (List aj)} {row:Option Nat} (h:fe A Z v c) (hg:A.grownBy C row) (hr:∀r,row=some r→∃o,A.heap[r]?=some o∧o.isCells=false):fe C Z v c:=by
 obtain ⟨rs,⟨h1,h2,h3,h4⟩,h5,h6⟩:=h;have far:∀ {B k n:Nat} {e:TypeId} {u:Value} {xs:List Value},A.ownsRow B e k u n xs→C.ownsRow B e k u n xs:=fun ho=>ho.kept hg (Bv fun g e h=>by
  obtain ⟨o,h7,h8⟩:=hr g h;rcases aK ho with ⟨hv,_,_⟩|⟨g',cap',hv⟩
  ·rw[hv] at e;cases e
  ·subst hv
   obtain ⟨cur,h9,_⟩:=bp ho;have:g'=g:=by simpa [Value.ownBlock] using e
   subst this;rw[h9] at h7;cases h7;cases h8)
 exact ⟨rs,⟨h1,far h2,fun i s t hs ht=>far (h3 i s t hs ht),h4⟩,h5,h6⟩
def isC (W:World) (q:Nat):Prop:=∃cs t fr,W.heap[q]?=some (.cells cs t fr)
structure In1 (w W3:World) (tj:List Value) (n:Int) (T:Nat) (tabs:List (List aj)) (M:Nat→Prop) (pre:List (aA×Int)) (W:World):Prop where
 st:sL w W3 tj n W
 b6:aJ W (W3.heap.size+1) [.map (some W3.heap.size)]
 ex:∃(c:List (List aj)) (f:Int→Option aA) (vt:Value),bH n pre (tabs,fun _=>none)=some (c,f)∧jz W W3.heap.size pre.length f∧aJ W (W3.heap.size+1+1) [vt]∧fe W (fun q=>(pre=[]∧T≤q∧q<W3.heap.size)∨(W3.heap.size+5≤q∧q<W.heap.size)) vt c
 Jj:∀q,M q→W3.heap.size+4≤q∧q<W.heap.size
 sz:W3.heap.size+5≤W.heap.size
theorem In1.kept {w W3 A C:World} {tj:List Value} {n:Int} {T:Nat} {tabs:List (List aj)} {M M':Nat→Prop} {pre:List (aA×Int)} {row:Option Nat} (h:In1 w W3 tj n T tabs M pre A) (hg:A.grownBy C row) (hr:∀r,row=some r→W3.heap.size+5≤r∧∃o,A.heap[r]?=some o∧o.isCells=false) (hn:New M M' A C):In1 w W3 tj n T tabs M' pre C:=by
 obtain ⟨c,f,vt,e1,e2,e3,e4⟩:=h.ex;have hne:∀b,b<W3.heap.size+5→some b≠row:=fun b hb e=>by have:=(hr b e.symm).1;omega
 refine ⟨h.st.kept hg (fun r e=>by have:=(hr r e).1;omega),h.b6.grown hg (hne _ (by omega)),⟨c,f,vt,e1,e2.kept hg (hne _ (by omega)),e3.grown hg (hne _ (by omega)),(e4.Nd hg fun r e=>(hr r e).2).mono fun q hq=>?_⟩,fun q hm=>?_,Nat.le_trans h.sz hg.size⟩
 ·rcases hq with hq|hq
  ·exact .inl hq
  ·exact .inr ⟨hq.1,Nat.lt_of_lt_of_le hq.2 hg.size⟩
 ·rcases hn q hm with hm|hm
  ·have:=h.Jj q hm;have:=hg.size;exact ⟨by omega,by omega⟩
  ·have:=h.sz;exact ⟨by have:=hm.1;omega,hm.2⟩
theorem dr.from {Z:Nat→Prop} {W W':World} {B:Nat} (h:dr Z W W') (hz:∀q,Z q→q<B∨isC W q):KeepsFrom B W W':=
 ⟨h.size,fun k o hb hk ho=>(h.block k (Array.getElem?_eq_some_iff.1 hk).1 (fun hq=>by
  rcases hz k hq with h1|⟨cs,t,fr,h1⟩
  ·omega
  ·rw[h1] at hk;cases hk;cases ho)).trans hk⟩
theorem dr.keep {Z M:Nat→Prop} {W W':World} (h:dr Z W W') (hz:∀q,Z q→¬M q):fA M W W':=⟨h.size,fun b hm hb=>h.block b hb (fun hq=>hz b hq hm)⟩
theorem aJ.dg {Z:Nat→Prop} {W W':World} {b:Nat} {cs:List Value} (h:aJ W b cs) (hz:dr Z W W') (hb:¬Z b):aJ W' b cs:=by have hl:=h.lt;obtain ⟨T,h⟩:=h;exact ⟨T,(hz.block b hl hb).trans h⟩
structure Ix1 (w W3:World) (tj:List Value) (n:Int) (tabs:List (List aj)) (c:Code) (pre:List (aA×Int)) (W:World):Prop where
 ret:c=.ret
 no:bH n pre (tabs,fun _=>none)=none
 dg:dr (fun q=>q<w.heap.size+4) W3 W
 r4:aJ W (w.heap.size+1+1) tj
 r5:aJ W (w.heap.size+1+1+1) [.int .i64 210]
 below:Bw w W
 three:w.heap.size+4≤W3.heap.size
theorem BF {B:Nat} {W3 A C:World} {row:Option Nat} (h:dr (fun q=>q<B) W3 A) (hg:A.grownBy C row) (hr:∀r,row=some r→W3.heap.size≤r):dr (fun q=>q<B) W3 C:=
 ⟨hg.os.trans h.os,hg.tape.trans h.tape,hg.output.trans h.output,Nat.le_trans h.size hg.size,fun k hk hz=>(hg.block k (Nat.lt_of_lt_of_le hk h.size) (fun e=>by have:=hr k e.symm;omega)).trans (h.block k hk hz)⟩
theorem Ix1.kept {w W3 A C:World} {tj:List Value} {n:Int} {tabs:List (List aj)} {c:Code} {pre:List (aA×Int)} {row:Option Nat} (h:Ix1 w W3 tj n tabs c pre A) (hg:A.grownBy C row) (hr:∀r,row=some r→W3.heap.size≤r):Ix1 w W3 tj n tabs c pre C:=by
 have h3:=h.three;have hne:∀b,b<w.heap.size+4→some b≠row:=fun b hb e=>by have:=hr b e.symm;omega
 have hb:=h.below;exact ⟨h.ret,h.no,BF h.dg hg hr,h.r4.grown hg (hne _ (by omega)),h.r5.grown hg (hne _ (by omega)),⟨hg.os.trans hb.os,hg.tape.trans hb.tape,hg.output.trans hb.output,Nat.le_trans hb.size hg.size,fun k hk=>(hg.block k (by have:=hb.size;omega) (hne _ (by omega))).trans (hb.block k hk)⟩,h3⟩
theorem LS {W:World} {b7 b8 b3:Nat} {u a0 a1 a2 a3 n0:Value} (h7:aJ W b7 [u]) (h8:aJ W b8 [a0,a1,a2,a3]) (h3:aJ W b3 [n0]):W.cell? ⟨b7,0,none⟩=some u∧W.cell? ⟨b8,0,none⟩=some a0∧W.cell? ⟨b8,1,none⟩=some a1∧W.cell? ⟨b8,2,none⟩=some a2∧W.cell? ⟨b8,3,none⟩=some a3∧W.cell? ⟨b3,0,none⟩=some n0:=⟨h7.one,h8.cell rfl,h8.cell rfl,h8.cell rfl,h8.cell rfl,h3.one⟩
theorem LU {W:World} {b6 b8:Nat} {u a0 a1 a2 a3:Value} (h7:aJ W b6 [u]) (h8:aJ W b8 [a0,a1,a2,a3]):W.cell? ⟨b6,0,none⟩=some u∧W.cell? ⟨b8,0,none⟩=some a0∧W.cell? ⟨b8,1,none⟩=some a1∧W.cell? ⟨b8,2,none⟩=some a2∧W.cell? ⟨b8,3,none⟩=some a3:=⟨h7.one,h8.cell rfl,h8.cell rfl,h8.cell rfl,h8.cell rfl⟩
theorem fe.iq {A C:World} {Z Z':Nat→Prop} {v:Value} {c:List (List aj)} (h:fe A Z v c) (hz:dr Z' A C) (hd:∀q,Z q→¬Z' q):fe C Z v c:=by obtain ⟨rs,⟨h1,h2,h3,h4⟩,h5,h6⟩:=h;exact ⟨rs,⟨h1,gm h2 (fun g e hl=>hz.block g hl (hd g (h5 g e))),fun i s t hs ht=>gm (h3 i s t hs ht) (fun g e hl=>hz.block g hl (hd g (h6 i s hs g e))),h4⟩,h5,h6⟩
theorem tk {A C:World} {D:Nat→Prop} {row:Option Nat} (hg:A.grownBy C row) (hr:∀r,row=some r→∃o,A.heap[r]?=some o∧o.isCells=false):dJ (mask D A) (mask D C):=fun a u hu=>by obtain ⟨h1,h2⟩:=ar.1 hu;refine ar.2 ⟨h1,(World.cell?_of_block (hg.block a.block (World.block_lt_of_cell? _ _ h2) (fun e=>?_))).trans h2⟩;obtain ⟨o,h3,h4⟩:=hr a.block e.symm;simp only[World.cell?,h3] at h2;cases o <;> simp_all[Obj.isCells]
theorem kE {A C:World} {D Z:Nat→Prop} (hz:dr Z A C) (hd:∀q,Z q→¬D q):dJ (mask D A) (mask D C):=fun a u hu=>by obtain ⟨h1,h2⟩:=ar.1 hu;exact ar.2 ⟨h1,(World.cell?_of_block (hz.block a.block (World.block_lt_of_cell? _ _ h2) (fun h=>hd _ h h1))).trans h2⟩
structure In2 (w W3 W8:World) (tj:List Value) (n met:Int) (b:Nat) (D:Nat→Prop) (f:Int→Option aA) (d0:aL) (M:Nat→Prop) (pre:List (aA×Int)) (W:World):Prop where
 st:sL w W3 tj n W
 dg:dr (fun q=>q=b) W8 W
 ex:∃(d:aL) (pk:Option Addr) (nk ck:Nat) (pc:Option Addr) (nc cc:Nat) (pp:Option Addr) (np cp:Nat),bl met f pre d0=(d,0)∧aJ W b [.slice pk nk ck,.slice pc nc cc,.int .i64 d.ah,.slice pp np cp,.bool d.dead]∧bP (mask D W) d (.slice pk nk ck) (.slice pc nc cc) (.slice pp np cp)
 Jj:∀q,M q→b<q∧q<W.heap.size
 sz:b+3≤W.heap.size
theorem In2.kept {w W3 W8 A C:World} {tj:List Value} {n met:Int} {b:Nat} {D:Nat→Prop} {f:Int→Option aA} {d0:aL} {M M':Nat→Prop} {pre:List (aA×Int)} {row:Option Nat} (h:In2 w W3 W8 tj n met b D f d0 M pre A) (hb:W3.heap.size≤b) (h8:W8.heap.size=b+3) (hg:A.grownBy C row) (hr:∀r,row=some r→b+3≤r∧∃o,A.heap[r]?=some o∧o.isCells=false) (hn:New M M' A C):In2 w W3 W8 tj n met b D f d0 M' pre C:=by
 obtain ⟨d,pk,nk,ck,pc,nc,cc,pp,np,cp,e1,e2,e3⟩:=h.ex;refine ⟨h.st.kept hg (fun r e=>by have:=(hr r e).1;omega),⟨hg.os.trans h.dg.os,hg.tape.trans h.dg.tape,hg.output.trans h.dg.output,Nat.le_trans h.dg.size hg.size,fun k hk hz=>(hg.block k (Nat.lt_of_lt_of_le hk h.dg.size) (fun e=>by have:=(hr k e.symm).1;omega)).trans (h.dg.block k hk hz)⟩,
  ⟨d,pk,nk,ck,pc,nc,cc,pp,np,cp,e1,e2.grown hg (fun e=>by have:=(hr b e.symm).1;omega),e3.keeps (tk hg fun r e=>(hr r e).2)⟩,fun q hm=>?_,Nat.le_trans h.sz hg.size⟩
 rcases hn q hm with hm|hm
 ·have:=h.Jj q hm;have:=hg.size;exact ⟨by omega,by omega⟩
 ·have:=h.sz;exact ⟨by have:=hm.1;omega,hm.2⟩
structure Ix2 (w W3 W8:World) (P5:List Value) (n met:Int) (b:Nat) (D:Nat→Prop) (f:Int→Option aA) (d0:aL) (c:Code) (pre:List (aA×Int)) (W:World):Prop where
 ret:c=.ret
 dg:dr (fun q=>q<w.heap.size+4) W3 W
 z8:dr (fun q=>q=b∨q<w.heap.size+4) W8 W
 ex:∃(d:aL) (code:Int) (pk:Option Addr) (nk ck:Nat) (pc:Option Addr) (nc cc:Nat) (pp:Option Addr) (np cp:Nat),bl met f pre d0=(d,code)∧¬code=0∧aJ W (w.heap.size+1+1) (.slice pk nk ck::.slice pc nc cc::.int .i64 d.ah::.slice pp np cp::.bool d.dead::P5)∧aJ W (w.heap.size+1+1+1) [.int .i64 code]∧bP (mask D W) d (.slice pk nk ck) (.slice pc nc cc) (.slice pp np cp)
 below:Bw w W
 three:w.heap.size+4≤W3.heap.size
theorem Ix2.kept {w W3 W8 A C:World} {P5:List Value} {n met:Int} {b:Nat} {D:Nat→Prop} {f:Int→Option aA} {d0:aL} {c:Code} {pre:List (aA×Int)} {row:Option Nat} (h:Ix2 w W3 W8 P5 n met b D f d0 c pre A) (hg:A.grownBy C row) (h38:W3.heap.size≤W8.heap.size) (hr:∀r,row=some r→W8.heap.size≤r∧∃o,A.heap[r]?=some o∧o.isCells=false):Ix2 w W3 W8 P5 n met b D f d0 c pre C:=by
 have h3:=h.three;have hne:∀b,b<w.heap.size+4→some b≠row:=fun b hb e=>by have:=(hr b e.symm).1;omega
 have hb:=h.below;obtain ⟨d,code,pk,nk,ck,pc,nc,cc,pp,np,cp,e1,e2,e3,e4,e5⟩:=h.ex;exact ⟨h.ret,BF h.dg hg (fun r e=>Nat.le_trans h38 (hr r e).1),⟨hg.os.trans h.z8.os,hg.tape.trans h.z8.tape,hg.output.trans h.z8.output,Nat.le_trans h.z8.size hg.size,fun k hk hz=>(hg.block k (Nat.lt_of_lt_of_le hk h.z8.size) (fun e=>by have:=(hr k e.symm).1;omega)).trans (h.z8.block k hk hz)⟩,⟨d,code,pk,nk,ck,pc,nc,cc,pp,np,cp,e1,e2,e3.grown hg (hne _ (by omega)),e4.grown hg (hne _ (by omega)),e5.keeps (tk hg fun r e=>(hr r e).2)⟩,⟨hg.os.trans hb.os,hg.tape.trans hb.tape,hg.output.trans hb.output,Nat.le_trans hb.size hg.size,fun k hk=>(hg.block k (by have:=hb.size;omega) (hne _ (by omega))).trans (hb.block k hk)⟩,h3⟩
theorem ch8 (W:World) (a0 a1 a2 a3 a4 vv:Value) (n:Int) (W8:World) (h:((W.alloc (.cells #[a0,a1,a2,a3,a4] 26)).alloc (.cells #[vv] 27)).alloc (.cells #[.int .i64 n] 3)=W8) :
 aJ W8 W.heap.size [a0,a1,a2,a3,a4]∧aJ W8 (W.heap.size+1) [vv]∧aJ W8 (W.heap.size+1+1) [.int .i64 n]∧W8.heap.size=W.heap.size+3∧Bw W W8:=by
 subst h;obtain ⟨h1,h2,h3,hb⟩:=Ov W [a0,a1,a2,a3,a4] [vv] [.int .i64 n] 26 27 3;exact ⟨h1,h2,h3,by simp,hb⟩
theorem ch6 (W:World) (vv:Value) (n:Int) (W8:World) (h:(W.alloc (.cells #[vv] 27)).alloc (.cells #[.int .i64 n] 3)=W8) :
 aJ W8 W.heap.size [vv]∧aJ W8 (W.heap.size+1) [.int .i64 n]∧W8.heap.size=W.heap.size+2∧Bw W W8:=by
 subst h;obtain ⟨h1,h2,hb⟩:=zb W [vv] [.int .i64 n] 27 3;exact ⟨h1,h2,by simp,hb⟩
theorem pE {W:World} {b6 b8:Nat} {u a0 a1 a2 a3:Value} {k:Int} {y:Value} {m:Nat} (h7:aJ W b6 [u]) (h8:aJ W b8 [a0,a1,a2,a3]) (h:(Instr.lookup 58 (.map (some m)) (.int .i64 k) false).run Tryz.prog W=.ok y W):W.cell? ⟨b6,0,none⟩=some u∧W.cell? ⟨b8,0,none⟩=some a0∧W.cell? ⟨b8,1,none⟩=some a1∧W.cell? ⟨b8,2,none⟩=some a2∧W.cell? ⟨b8,3,none⟩=some a3∧(Instr.lookup 58 (.map (some m)) (.int .i64 k) false).run Tryz.prog W=.ok y W:=⟨h7.one,h8.cell rfl,h8.cell rfl,h8.cell rfl,h8.cell rfl,h⟩
theorem aJ.amr {W:World} {b:Nat} {x0 x1 x2 x3:Value} (h:aJ W b [x0,x1,x2,x3]) (y0 y1 y2 y3:Value):aJ ((((W.setCell ⟨b,0,none⟩ y0).setCell ⟨b,1,none⟩ y1).setCell ⟨b,2,none⟩ y2).setCell ⟨b,3,none⟩ y3) b [y0,y1,y2,y3]:=(((h.set 0 y0).set 1 y1).set 2 y2).set 3 y3
theorem LV (W:World) (b:Nat) (y0 y1 y2 y3:Value):W.grownBy ((((W.setCell ⟨b,0,none⟩ y0).setCell ⟨b,1,none⟩ y1).setCell ⟨b,2,none⟩ y2).setCell ⟨b,3,none⟩ y3) (some b):=aX (aX (aX (aw W b 0 y0) (aw _ b 1 y1)) (aw _ b 2 y2)) (aw _ b 3 y3)
theorem pF (W:World) (b:Nat) (y0 y1 y2 y3 y4:Value):W.grownBy (((((W.setCell ⟨b,0,none⟩ y0).setCell ⟨b,1,none⟩ y1).setCell ⟨b,2,none⟩ y2).setCell ⟨b,3,none⟩ y3).setCell ⟨b,4,none⟩ y4) (some b):=aX (LV W b y0 y1 y2 y3) (aw _ b 4 y4)
theorem jz.get_at {W:World} {b n:Nat} {f:Int→Option aA} (h:jz W b n f) {k:Int} (hk:aP k) {y:aA} (hy:f k=some y):(Instr.lookup 58 (.map (some b)) (.int .i64 k) false).run Tryz.prog W=.ok y.agg W:=by have:=h.get hk;rw[hy] at this;exact this
def agF (Wb:World) (lo:Nat) (yc yp ys:Int) (yk:Bool) (v15:Value) (wx:World):Prop:=∃LW,v15=.pointer (some ⟨LW,0,none⟩)∧aJ wx LW [.int .i64 yc,.int .i64 yp,.int .i64 ys,.bool yk]∧Bw Wb wx∧lo≤LW
theorem xy {W:World} {b13 b2 Ce LW:Nat} {d0 d1 d2 d3 d4 p0 p1 p2 p3 p4 p5 p6 p7 p8 p9 a0 a1 a2 a3 y0 y1 y2 y3:Value} (h13:aJ W b13 [d0,d1,d2,d3,d4]) (h2:aJ W b2 [p0,p1,p2,p3,p4,p5,p6,p7,p8,p9]) (h14:aJ W Ce [a0,a1,a2,a3]) (h15:aJ W LW [y0,y1,y2,y3]) :
 W.cell? ⟨b13,0,none⟩=some d0∧W.cell? ⟨b13,1,none⟩=some d1∧W.cell? ⟨b13,2,none⟩=some d2∧W.cell? ⟨b13,3,none⟩=some d3∧W.cell? ⟨b13,4,none⟩=some d4 ∧
 W.cell? ⟨b2,0,none⟩=some p0∧W.cell? ⟨b2,1,none⟩=some p1∧W.cell? ⟨b2,2,none⟩=some p2∧W.cell? ⟨b2,3,none⟩=some p3∧W.cell? ⟨b2,4,none⟩=some p4∧W.cell? ⟨b2,5,none⟩=some p5∧W.cell? ⟨b2,6,none⟩=some p6∧W.cell? ⟨b2,7,none⟩=some p7∧W.cell? ⟨b2,8,none⟩=some p8∧W.cell? ⟨b2,9,none⟩=some p9 ∧
 W.cell? ⟨Ce,0,none⟩=some a0∧W.cell? ⟨Ce,1,none⟩=some a1∧W.cell? ⟨Ce,2,none⟩=some a2∧W.cell? ⟨Ce,3,none⟩=some a3∧W.cell? ⟨LW,0,none⟩=some y0∧W.cell? ⟨LW,1,none⟩=some y1∧W.cell? ⟨LW,2,none⟩=some y2∧W.cell? ⟨LW,3,none⟩=some y3:=
 ⟨h13.cell rfl,h13.cell rfl,h13.cell rfl,h13.cell rfl,h13.cell rfl,h2.cell rfl,h2.cell rfl,h2.cell rfl,h2.cell rfl,h2.cell rfl,h2.cell rfl,h2.cell rfl,h2.cell rfl,h2.cell rfl,h2.cell rfl,h14.cell rfl,h14.cell rfl,h14.cell rfl,h14.cell rfl,h15.cell rfl,h15.cell rfl,h15.cell rfl,h15.cell rfl⟩
def agG (Wb:World) (D:Nat→Prop) (lo:Nat) (r:aL×Int) (v16 v17:Value) (wx:World):Prop:=∃(b16:Nat) (pk:Option Addr) (nk ck:Nat) (pc:Option Addr) (nc cc:Nat) (pp:Option Addr) (np cp:Nat),v16=.pointer (some ⟨b16,0,none⟩)∧v17=.int .i64 r.2∧lo≤b16 ∧
 aJ wx b16 [.slice pk nk ck,.slice pc nc cc,.int .i64 r.1.ah,.slice pp np cp,.bool r.1.dead]∧bP (mask D wx) r.1 (.slice pk nk ck) (.slice pc nc cc) (.slice pp np cp)∧Bw Wb wx
def zg (W:World) (q:Nat):Prop:=∃cs t fr,W.heap[q]?=some (.cells cs t fr)∧(t=52∨t=45)
theorem fe.uses {A:World} {Z:Nat→Prop} {v:Value} {c:List (List aj)} (h:fe A Z v c):fe A (fun q=>Z q∧zg A q) v c:=by
 obtain ⟨rs,⟨h1,h2,h3,h4⟩,h5,h6⟩:=h;have far:∀ {B k n:Nat} {e:TypeId} {u:Value} {xs:List Value} {g:Nat},(e=52∨e=45)→A.ownsRow B e k u n xs→u.ownBlock=some g→zg A g:=fun {_ _ _ _ _ _ g} ht ho e=>by
  rcases aK ho with ⟨hv,_,_⟩|⟨g',cap',hv⟩
  ·rw[hv] at e;cases e
  ·subst hv
   obtain ⟨cur,h9,_⟩:=bp ho;have:g'=g:=by simpa [Value.ownBlock] using e
   subst this;exact ⟨_,_,_,h9,ht⟩
 refine ⟨rs,⟨h1,h2,h3,h4⟩,fun g e=>⟨h5 g e,far (.inr rfl) h2 e⟩,fun i s hs g e=>⟨h6 i s hs g e,?_⟩⟩;have hi:=(List.getElem?_eq_some_iff.1 hs).1;rw[h1] at hi;exact far (.inl rfl) (h3 i s _ hs (List.getElem?_eq_getElem hi)) e
def Jk (W:World) (b:Nat) (x:aA):Prop:=W.heap[b]?=some (.cells #[.int .i64 x.chunk,.int .i64 x.pos,.int .i64 x.size,.bool x.packed] 50 (0,0))
theorem Jk.blk {W:World} {b:Nat} {x:aA} (h:Jk W b x):aJ W b [.int .i64 x.chunk,.int .i64 x.pos,.int .i64 x.size,.bool x.packed]:=⟨_,h⟩
theorem Jk.new (W:World) (x:aA):Jk (W.alloc (.cells #[.int .i64 x.chunk,.int .i64 x.pos,.int .i64 x.size,.bool x.packed] 50)) W.heap.size x:=World.alloc_heap_new W _
theorem Jk.no {W:World} {b:Nat} {x:aA} (h:Jk W b x):¬zg W b:=fun ⟨cs,t,fr,h1,h2⟩=>by
 rw[show W.heap[b]?=_ from h] at h1;cases h1
 revert h2;decide
theorem jz.no {W:World} {b n:Nat} {f:Int→Option aA} (h:jz W b n f):¬zg W b:=fun ⟨cs,t,fr,h1,h2⟩=>by obtain ⟨D,⟨es,clock,h3,_⟩,_⟩:=h;rw[h3] at h1;cases h1
structure In3 (w W3 W9:World) (tj:List Value) (n:Int) (b7 lo:Nat) (Zs Zz:Nat→Prop) (f:Int→Option aA) (c0:List (List aj)) (M:Nat→Prop) (pre:List (aA×Int)) (W:World):Prop where
 st:sL w W3 tj n W
 dg:dr (fun q=>q=b7∨Zz q) W9 W
 ex:∃(p:Option Addr) (m k:Nat),aJ W b7 [.slice p m k]∧fe W (fun q=>Zs q∨(W9.heap.size≤q∧q<W.heap.size∧¬M q)) (.slice p m k) (cJ f pre c0)
 Jj:∀q,M q→lo≤q∧q<W.heap.size
theorem In3.kept {w W3 W9 A C:World} {tj:List Value} {n:Int} {b7 lo:Nat} {Zs Zz:Nat→Prop} {f:Int→Option aA} {c0:List (List aj)} {M M':Nat→Prop} {pre:List (aA×Int)} {row:Option Nat} (h:In3 w W3 W9 tj n b7 lo Zs Zz f c0 M pre A) (h39:W3.heap.size≤W9.heap.size) (h7:b7<W9.heap.size) (zM:lo≤W9.heap.size) (hg:A.grownBy C row) (hr:∀r,row=some r→W9.heap.size≤r∧∃o,A.heap[r]?=some o∧o.isCells=false) (hn:New M M' A C):In3 w W3 W9 tj n b7 lo Zs Zz f c0 M' pre C:=by
 obtain ⟨p,m,k,e1,e2⟩:=h.ex;refine ⟨h.st.kept hg (fun r e=>Nat.le_trans h39 (hr r e).1),⟨hg.os.trans h.dg.os,hg.tape.trans h.dg.tape,hg.output.trans h.dg.output,Nat.le_trans h.dg.size hg.size,fun k hk hz=>(hg.block k (Nat.lt_of_lt_of_le hk h.dg.size) (fun e=>by have:=(hr k e.symm).1;omega)).trans (h.dg.block k hk hz)⟩,
  ⟨p,m,k,e1.grown hg (fun e=>by have:=(hr _ e.symm).1;omega),(e2.Nd hg fun r e=>(hr r e).2).mono fun q hq=>?_⟩,fun q hm=>?_⟩
 ·rcases hq with hq|⟨h1,h2,h3⟩
  ·exact .inl hq
  ·refine .inr ⟨h1,Nat.lt_of_lt_of_le h2 hg.size,fun hm=>?_⟩
   rcases hn q hm with hm|hm
   ·exact h3 hm
   ·have:=hm.1;omega
 ·rcases hn q hm with hm|hm
  ·have:=h.Jj q hm;have:=hg.size;exact ⟨by omega,by omega⟩
  ·have:=h.dg.size;exact ⟨by have:=hm.1;omega,hm.2⟩
theorem fJ.kid {w:World} {B:Nat} {F:Nat→Prop} {vv:Value} {l:List dy} (h:fJ w B F vv l) {j:Nat} {d:dy} (hd:l[j]?=some d):∃(g cap:Nat) (K:Nat→Prop) (x y z:Value),vv=.slice (some ⟨g,0,none⟩) l.length cap∧w.cell? ⟨g,j*5+3,none⟩=some y∧w.cell? ⟨g,j*5+4,none⟩=some z∧gj w K d.map x y z∧¬K g∧(∀q,K q→F q) ∧
 ∀(w':World) (d':dy),d'.id=d.id→d'.size=d.size→gj w' K d'.map x y z→(∀q,q<w.heap.size→¬K q→w'.heap[q]?=w.heap[q]?)→fJ w' B F vv (l.set j d'):=by
 obtain ⟨xs,G,rfl,h2,h3,h4,h5⟩:=h;rw[List.getElem?_map] at hd;cases hx:xs[j]? with
 |none=>rw[hx] at hd;cases hd
 |some r=>
  rw[hx] at hd;simp only[Option.map_some,Option.some.injEq] at hd;subst hd;have hj:=(List.getElem?_eq_some_iff.1 hx).1;rw[List.length_map] at h2;rcases aK h2 with ⟨_,hn,_⟩|⟨g,cap,hv⟩
  ·omega
  subst hv;obtain ⟨i1,i2,i3⟩:=h3 j r hx;have hl:=nh xs;have hc:∀i u,(qH r.1 r.2)[i]?=some u→w.cell? ⟨g,j*5+i,none⟩=some u:=fun i u hi=>by have h6:=lA xs j r hx i u hi;obtain ⟨h7,h8⟩:=List.getElem?_eq_some_iff.1 h6;rw[bJ h2 (j*5+i) h7,h8]
  refine ⟨g,cap,G j,r.2.1,r.2.2.1,r.2.2.2,by rw[List.length_map],hc 3 _ rfl,hc 4 _ rfl,i3,fun h=>(h4 j g h).2 rfl,fun q hq=>(h4 j q hq).1,fun w' d' e1 e2 hn hs=>?_⟩;have hm:(xs.set j (d',r.2)).map Prod.fst=(xs.map Prod.fst).set j d':=by rw[List.map_set]
  have agH:fV (xs.set j (d',r.2))=fV xs:=by
   unfold fV;congr 1;refine List.ext_getElem? fun i=>?_;rw[List.getElem?_map,List.getElem?_map];by_cases e:j=i
   ·subst e
    rw[List.getElem?_set_self hj,hx];simp only[Option.map_some,qH,e1,e2]
   ·rw[List.getElem?_set_ne e]
  refine ⟨xs.set j (d',r.2),G,hm,?_,fun i y hy=>?_,h4,h5⟩
  ·rw[List.length_set,List.length_map,agH]
   exact gm h2 (fun q e hl=>hs q hl (fun hk=>(h4 j q hk).2 e))
  ·by_cases e:j=i
   ·subst e
    rw[List.getElem?_set_self hj] at hy;cases hy;exact ⟨by rw[e1];exact i1,by rw[e2];exact i2,hn⟩
   ·rw[List.getElem?_set_ne e] at hy
    exact ⟨(h3 i y hy).1,(h3 i y hy).2.1,(h3 i y hy).2.2.same (fun q hq hl=>hs q hl (h5 i j q (fun h=>e h.symm) hq))⟩
def LX (f:Int→Option aA) (l:List dy) (k:Nat):List dy:=(l.take k).map (mK f)++l.drop k
theorem Xm {f:Int→Option aA} {l:List dy} {k:Nat} {v:dy} (h:l[k]?=some v):(LX f l k)[k]?=some v:=by have hk:=(List.getElem?_eq_some_iff.1 h).1;unfold LX;rw[List.getElem?_append_right (by rw[List.length_map,List.length_take];omega),List.length_map,List.length_take,Nat.min_eq_left (by omega),Nat.sub_self,List.getElem?_drop,Nat.add_zero];exact h
theorem Marks.iq {B:Nat} {Z:Nat→Prop} {W W':World} {ds:List Deferred} (h:Marks B ds W) (hz:dr Z W W') (hZ:∀q,Z q→q<B):Marks B ds W':=
 h.step fun D hB hD=>(hz.block D (Array.getElem?_eq_some_iff.1 hD).1 (fun h=>by have:=hZ D h;omega)).trans hD
theorem fJ.iq {w w':World} {B:Nat} {F Z:Nat→Prop} {vv:Value} {l:List dy} (h:fJ w B F vv l) (hF:∀q,F q→B≤q) (hz:dr Z w w') (hZ:∀q,Z q→q<B):fJ w' B F vv l:=
 h.same hF (fun q hq hl=>hz.block q hl (fun h=>by have:=hZ q h;omega))
theorem TV {W:World} {b2 b6:Nat} {p0 p1 p2 p3 p4 p5 p6 p7 p8 p9 u:Value} (h2:aJ W b2 [p0,p1,p2,p3,p4,p5,p6,p7,p8,p9]) (h6:aJ W b6 [u]):W.cell? ⟨b2,8,none⟩=some p8∧W.cell? ⟨b6,0,none⟩=some u:=⟨h2.cell rfl,h6.one⟩
theorem zf.iq {w w':World} {B T:Nat} {F Z:Nat→Prop} {p:bX} {v:PV} (h:zf w B T F p v) (hz:dr Z w w') (hZ:∀q,Z q→q<B):zf w' B T F p v:=
 h.same (fun q hq hl=>hz.block q hl (fun h=>by have:=hZ q h;omega)) hz.size
end Go.Proofs.YtbigkioechkngaaGreat
namespace Go.Proofs.YtbigkioechkngaaGreat
open Go.RowKit
theorem D6 {t:ag} {l:List az} (h:Grown l t) (hr:jD l=true) (hp:l.all (dH 3)=true):cI ⟨1,3,t⟩=true:=by unfold cI;simp only;rw[h.may hr,h.1,hp];rfl
theorem PW {t:ag} {l:List az} (h:Grown l t) (hr:jD l=true) (hp:l.all (dH 3)=true):fo [] ⟨1,3,t⟩=[⟨1,3,t⟩]:=by
 have hv:dR []=true:=by rw[dw];exact ⟨fun d hd=>by simp at hd,fun i x y hx hy=>by simp at hy,by simp⟩
 unfold fo;rw[if_pos ⟨hv,D6 h hr hp⟩];rfl
theorem PX {t t1:ag} {l l1:List az} (h:Grown l t) (hr:jD l=true) (hp:l.all (dH 3)=true) (h1:Grown l1 t1) (hr1:jD l1=true) (Vn:l1.all (dH 3)=true):fo [⟨1,3,t1⟩] ⟨1,3,t⟩=[⟨1,3,t⟩]:=by unfold fo;rw[if_pos ⟨rD h1 hr1 Vn,D6 h hr hp⟩];rfl
theorem LY (v:PV) (w:World) (F:Nat→Prop) (hF:∀q,w.heap.size≤q→F q) (h:bh (mask F w) yD v):Calls Tryz.prog 61 #[.agg #[v.k,v.c,.int .i64 cV.ah,v.p,.bool cV.dead,.int .i64 4,.int .i64 1,.int .i64 0,v.v,v.t],.agg #[.int .i64 0,.int .i64 1,.int .i64 0,.int .i64 0,.int .i64 3,.string ⟨#[]⟩]] w fun e w'=>
 ∃t v',Grown [] t∧e=.returned (.tuple #[.agg #[v'.k,v'.c,.int .i64 cV.ah,v'.p,.bool cV.dead,.int .i64 4,.int .i64 1,.int .i64 0,v'.v,v'.t],.agg #[.int .i64 0,.string eB,.int .i64 0]])∧bh (mask F w') (DT t) v'∧Bw w w':=by
 refine (E5 yD v ⟨0,1,0,0,3,⟨#[]⟩⟩ w F hF h (fun d hd=>by simp[yD] at hd) PJ rfl rfl ⟨by decide,by decide⟩ ⟨by decide,by decide⟩ (by kernel_rfl) (by decide)).mono ?_;rintro e w' ⟨t,hg,v',he,hp,hb⟩;rw[show ({yD with av:=fo yD.av ⟨1,3,t⟩}:bX)=DT t by show bX.mk _ _ _ _ (fo [] ⟨1,3,t⟩) _=_;rw[PW hg (by kernel_rfl) (by kernel_rfl)];rfl] at hp;exact ⟨t,v',hg,he,hp,hb⟩
theorem PY {t1:ag} (hg:Grown [] t1) (v:PV) (w:World) (F:Nat→Prop) (hF:∀q,w.heap.size≤q→F q) (h:bh (mask F w) (DT t1) v):Calls Tryz.prog 61 #[.agg #[v.k,v.c,.int .i64 cV.ah,v.p,.bool cV.dead,.int .i64 4,.int .i64 1,.int .i64 0,v.v,v.t],.agg #[.int .i64 4,.int .i64 1,.int .i64 0,.int .i64 2,.int .i64 0,.string ⟨mL.toArray⟩]] w fun e w'=>
 ∃t v',Grown [(2,49)] t∧e=.returned (.tuple #[.agg #[v'.k,v'.c,.int .i64 cK.ah,v'.p,.bool cK.dead,.int .i64 4,.int .i64 1,.int .i64 0,v'.v,v'.t],.agg #[.int .i64 0,.string eB,.int .i64 0]])∧bh (mask F w') (eG t) v'∧Bw w w':=by
 have hp:aB t1=[]:=hg.1;have QR:(findD (DT t1).av 1).1=⟨1,3,t1⟩:=by rfl
 have hE:E1 (⟨mL.toArray⟩:ByteArray).data.toList=(z24,true,true):=al9;refine (IZ (DT t1) v ⟨4,1,0,2,0,⟨mL.toArray⟩⟩ w F hF h (jO hg (by decide) 1 3) (PK hg) rfl rfl (by kernel_rfl) 0 (1,3) (by rfl) (by rfl) ⟨by decide,by decide⟩ (by decide) ⟨1,3,t1⟩ QR (by show (aB t1).length≤1999;rw[hp];decide) (by show Gk (aB t1);rw[hp];exact fun x hx=>by simp at hx)
  z24 true hE (by decide) [[(0,1,1,false)],[]] 0 0 aa1 (by kernel_rfl) cK agl (by show (kh (aB t1) 2).2=false;rw[hp];rfl)).mono ?_
 rintro e w' ⟨t,hg2,v',he,hp2,hb⟩;have hg3:Grown [(2,49)] t:=by
  have h9:fE (aB t1) 2 (cG ⟨0,0,(z24.length:Int),true⟩) false=[(2,49)]:=by rw[hp];kernel_rfl
  rw[← h9];exact hg2
 have hq:bh (mask F w') ⟨cK,4,1,0,fo [⟨1,3,t1⟩] ⟨1,3,t⟩,[[(0,1,1,false)],[]]⟩ v':=hp2;rw[PX hg3 (by kernel_rfl) (by kernel_rfl) hg (by kernel_rfl) (by kernel_rfl)] at hq;exact ⟨t,v',hg3,he,hq,hb⟩
theorem aJ.ne {W:World} {b:Nat} {l:List Value} (h:aJ W b l):¬W.heap.size=b:=by have:=h.lt;omega
theorem vC {W u:World} {a:Nat} {cs:List Value} {T:TypeId} (ha:W.heap.size=a) (hu:W.alloc (.cells cs.toArray T)=u):aJ u a cs∧Bw W u:=by subst ha;subst hu;exact ⟨aJ.new W cs T,aq⟩
theorem TX {F:Nat→Prop} {W u:World} {d:aL} {x y z:Value} {b:Nat} (h:bP (mask F W) d x y z) (hb:Bw W u) (ha:W.heap.size=b):bP (mask (fun q=>F q∧¬q=b) u) d x y z:=
 h.keeps (aC hb fun q hq hf=>⟨hf,by omega⟩)
def Ng:bX:=⟨⟨[],[],0,[],false⟩,0,0,0,[],[]⟩
def noV:PV:=⟨.slice none 0 0,.slice none 0 0,.slice none 0 0,.slice none 0 0,.slice none 0 0⟩
theorem Xr:cA Ng=false:=by
 cases h:cA Ng with
 |false=>rfl
 |true=>have h1:=(bF.1 h).2.2.1;simp[Ng] at h1
theorem abo (w:World):bh w Ng noV:=
 ⟨⟨lC w 1 lg,lC w 2 lG,iJ w,⟨fun x hx=>by simp[Ng] at hx,fun x hx=>by simp[Ng] at hx,by show aP 0;unfold aP;omega⟩⟩,⟨none,0,rfl,aT,by unfold maxLen;omega,fun j d hd=>by simp[Ng] at hd⟩,⟨none,0,rfl,aT,by unfold maxLen;omega,fun i x hx=>by simp[Ng] at hx⟩,by simp[Ng,aP],by simp[Ng,aP],by simp[Ng,aP]⟩
theorem L8:mR Ng = -1:=by unfold mR;rw[Xr];rfl
theorem P4 {t:ag} (h:Grown [(2,49)] t):mR (eG t)=0:=by
 unfold mR;rw[if_pos (zw h)];show ke 0 [[(0,1,1,false)],[]] (-1) 0=0
 kernel_rfl
theorem T7 {t u:ag} (h:Grown [(2,49)] t) (k:Grown [(2,49)] u):mQ (eG t) (eG u)=true:=by
 unfold mQ;have h1:rH (eG t).disk (eG u).disk=true:=Jn.2 rfl;have h2:jU (eG t).av (eG u).av=true:=by
  show (((((1:Int)==1)&&((3:Int)==3))&&mh (aB t) (aB u))&&true)=true;rw[h.1,k.1]
  kernel_rfl
 have h3:lh (eG t).tabs (eG u).tabs=true:=by kernel_rfl
 rw[h1,h2,h3];rfl
theorem pI {x:aA} (h:cE x=true):bM (kx x)=x:=by
 obtain ⟨h1,h2,h3,h4,h5,h6,h7⟩:=(bz _).1 h;have h8:=gD h3 h4;obtain ⟨c,p,s,b⟩:=x;simp only at h1 h2 h3 h4 h5 h6 h8;cases b with
 |true=>
  have e:kx ⟨c,p,s,true⟩=2*(257*(16*c+p)+s)+1:=rfl;rw[e];unfold bM;congr 1
  ·omega
  ·omega
  ·omega
  ·rw[show (2*(257*(16*c+p)+s)+1)%2=1 by omega];rfl
 |false=>
  have e:kx ⟨c,p,s,false⟩=2*(257*(16*c+p)+s):=Int.add_zero _;rw[e];unfold bM;congr 1
  ·omega
  ·omega
  ·omega
  ·rw[show (2*(257*(16*c+p)+s))%2=0 by omega];rfl
theorem vF {x y:aA} (h:cE x=true) (k:cE y=true) (e:cG x=cG y):x=y:=by unfold cG at e;rw[if_pos h,if_pos k] at e;rw[← pI h,e,pI k]
theorem Jz {a n:Int} {x:aj}:∀ {l:List aj},x∈l→x∈iK a n l
 |[],h=>by simp at h
 |u::l,h=>by
  unfold iK
  split
  ·exact List.mem_cons_of_mem _ h
  ·rw[List.mem_cons] at h ⊢
   rcases h with h|h
   ·exact .inl h
   ·exact .inr (Jz h)
theorem Mc {u:List Bool} {q:Nat} {n:Int} (h:iR u q n=true) {j:Nat} (h1:q≤j) (h2:(j:Int)<q+n):u[j]?=some false:=by
 obtain ⟨_,_,h5⟩:=xe h;unfold iR at h;rw[Bool.and_eq_true,decide_eq_true_eq,List.all_eq_true] at h;have hq:j<u.length:=by omega
 rw[List.getElem?_eq_getElem hq];have hm:u[j]∈(u.drop q).take n.toNat:=by rw[List.mem_iff_getElem?];refine ⟨j-q,?_⟩;rw[List.getElem?_take_of_lt (by omega),List.getElem?_drop,show q+(j-q)=j by omega,List.getElem?_eq_getElem hq]
 have:=h.2 _ hm;simp only[Bool.not_eq_true'] at this;rw[this]
theorem BL {l:List aj} {n a:Int} (ha:fH (fP l) n=a) (h0:0≤a):∀u∈l,∀z:Int,a≤z→z<a+n→¬(u.1≤z∧z<u.1+u.2.1):=fun u hu z h1 h2 hz=>by
 obtain ⟨q,rfl,hf⟩:=qX _ _ _ ha h0;obtain ⟨_,_,h5⟩:=xe hf;rw[kA] at h5;obtain ⟨k,rfl⟩:∃k:Nat,z=k:=⟨z.toNat,by omega⟩
 have h3:=Mc hf (j:=k) (by omega) (by omega);have hq:k<16:=by omega
 unfold fP at h3;rw[List.getElem?_map,List.getElem?_range hq] at h3;simp only[Option.map_some,Option.some.injEq] at h3;rw[List.any_eq_false] at h3;refine h3 u hu ?_;unfold jX;exact decide_eq_true (by omega)
def Sub (t c:List (List aj)):Prop:=c.length=t.length∧∀(i:Nat) u v,t[i]?=some u→c[i]?=some v→∀x∈u,x∈v
theorem Sub.refl (t:List (List aj)):Sub t t:=⟨rfl,fun i u v h k x hx=>by rw[h] at k;cases k;exact hx⟩
def Clear (t:List (List aj)) (n:Int) (y:aA):Prop:=∃(i:Nat) (u:List aj),y.chunk=i∧¬(i:Int)=n∧t[i]?=some u∧0≤y.pos∧y.pos+bQ y.size≤16∧∀x∈u,∀z:Int,y.pos≤z→z<y.pos+bQ y.size→¬(x.1≤z∧z<x.1+x.2.1)
theorem nS {n:Int} {T:List (List aj)}:∀ {l:List (aA×Int)} {c c':List (List aj)} {f f':Int→Option aA},bH n l (c,f)=some (c',f')→Sub T c→Sub T c'∧∀k y,f' k=some y→f k=some y∨(Clear T n y∧∃x∈l,cG x.1=k∧y.size=x.1.size∧y.packed=x.1.packed)
 |[],c,c',f,f',h,hs=>by unfold bH at h;injection h with h;injection h with h1 h2;subst h1;subst h2;exact ⟨hs,fun k y h=>.inl h⟩
 |x::l,c,c',f,f',h,hs=>by
  unfold bH at h;by_cases e:(bL c (bQ x.1.size) n).2.2.2=true
  ·rw[if_pos e] at h
   obtain ⟨_,i,u,h1,h2,h3,h4,h5,h6,h7,h8,h9⟩:=kD e;have hi:=(List.getElem?_eq_some_iff.1 h1).1;have hs1:Sub T (bL c (bQ x.1.size) n).1:=by
    rw[h9];refine ⟨by rw[List.length_set];exact hs.1,fun j a b ha hb z hz=>?_⟩;by_cases hj:i=j
    ·subst hj
     rw[List.getElem?_set_self hi] at hb;cases hb;exact Jz (hs.2 i a u ha h1 z hz)
    ·rw[List.getElem?_set_ne hj] at hb
     exact hs.2 j a b ha hb z hz
   obtain ⟨r1,r2⟩:=nS h hs1;refine ⟨r1,fun k y hk=>?_⟩;rcases r2 k y hk with h|⟨h,z,hz,h'⟩
   ·unfold ru at h
    by_cases e2:k=cG x.1
    ·rw[if_pos e2] at h;injection h with h
     right;subst h;obtain ⟨t,ht⟩:=fy (l:=T) (k:=i) (by rw[← hs.1];exact hi);exact ⟨⟨i,t,h3,h2,ht,h4,h5,fun v hv z a b=>BL h8 h4 v (hs.2 i t u ht h1 v hv) z a b⟩,x,List.mem_cons_self ..,e2.symm,rfl,rfl⟩
    ·rw[if_neg e2] at h;exact .inl h
   ·exact .inr ⟨h,z,List.mem_cons_of_mem _ hz,h'⟩
  ·rw[if_neg e] at h;cases h
def mS (d d':aL) (Q:Int→Prop):Prop:=∃m:List fB,d'={d with cache:=d.cache++m}∧(∀e∈m,Q e.1)∧gu d'=true
theorem mS.refl {d:aL} {Q:Int→Prop} (h:gu d=true):mS d d Q:=⟨[],by rw[List.append_nil],fun e he=>by simp at he,h⟩
theorem mS.trans {a b c:aL} {Q R:Int→Prop} (h:mS a b Q) (k:mS b c R):mS a c (fun z=>Q z∨R z):=by
 obtain ⟨m,rfl,h2,_⟩:=h;obtain ⟨l,rfl,k2,k3⟩:=k;exact ⟨m++l,by rw[← List.append_assoc],fun e he=>by
  rcases List.mem_append.1 he with he|he
  ·exact .inl (h2 e he)
  ·exact .inr (k2 e he),k3⟩
theorem mS.mono {a b:aL} {Q R:Int→Prop} (h:mS a b Q) (hq:∀z,Q z→R z):mS a b R:=by obtain ⟨m,h1,h2,h3⟩:=h;exact ⟨m,h1,fun e he=>hq _ (h2 e he),h3⟩
theorem BM {d:aL} {b:Int} {s:ByteArray} (hm:gu d=true) (hd:d.dead=false) (hf:d.ah<0):mS d (cC d b s).1 (fun z=>z=b):=by
 by_cases h:b<0∨(d.kept.length:Int)≤b∨¬s.size=32∨20000≤d.cache.length
 ·rw[AE hm hd h];exact mS.refl hm
 ·rw[qT hm hd h hf]
  refine ⟨[(b,s)],rfl,fun e he=>by rw[List.mem_singleton] at he;rw[he],?_⟩;have h0:=(fW d).1 hm;rw[fW];refine ⟨⟨h0.1.1,h0.1.2.1,?_,h0.1.2.2.2⟩,h0.2.1,fun p hp=>?_⟩
  ·show (d.cache++[(b,s)]).length≤20000
   rw[List.length_append,List.length_singleton];omega
  ·have Mo:p∈d.cache++[(b,s)]:=hp
   rcases List.mem_append.1 Mo with Mo|Mo
   ·exact h0.2.2 p Mo
   ·rw[List.mem_singleton] at Mo
    subst Mo;exact ⟨by show 0≤b;omega,by show b<d.kept.length;omega,by show s.size=32;omega⟩
theorem rJ:∀(k:Nat) {d:aL} {a b left:Int},gu d=true→d.dead=false→d.ah<0→mS d (fU k d a b left).1 (fun z=>b≤z∧z<b+k)
 |0,d,a,b,left,hm,hd,hf=>mS.refl hm
 |k+1,d,a,b,left,hm,hd,hf=>by
  unfold fU
  split
  ·exact mS.refl hm
  ·split
   ·exact mS.refl hm
   ·have hg:=BM (b:=b) (s:=jm (fq d a).1 left) hm hd hf
    split
    ·exact hg.mono fun z hz=>by omega
    ·have hg2:=hg
     obtain ⟨m,e,_,zE⟩:=hg2;have h3:=rJ k (d:=(cC d b (jm (fq d a).1 left)).1) (a:=a+1) (b:=b+1) (left:=left-32) zE (by rw[e];exact hd) (by rw[e];exact hf);exact (hg.trans h3).mono fun z hz=>by omega
theorem nT {met:Int} {f:Int→Option aA}:∀(l:List (aA×Int)) {d:aL},gu d=true→d.dead=false→d.ah<0→mS d (bl met f l d).1 (fun z=>∃x∈l,2+2*met+16*((f (cG x.1)).getD aA.zero).chunk+((f (cG x.1)).getD aA.zero).pos≤z∧z<2+2*met+16*((f (cG x.1)).getD aA.zero).chunk+((f (cG x.1)).getD aA.zero).pos+(bQ x.1.size).toNat)
 |[],d,hm,hd,hf=>mS.refl hm
 |x::l,d,hm,hd,hf=>by
  unfold bl;have hg:mS d (lr met d x.1 ((f (cG x.1)).getD aA.zero)).1 _:=rJ _ hm hd hf
  split
  ·exact hg.mono fun z hz=>⟨x,List.mem_cons_self ..,hz⟩
  ·have hg2:=hg
   obtain ⟨m,e,_,zE⟩:=hg2;have h3:=nT (met:=met) (f:=f) l (d:=(lr met d x.1 ((f (cG x.1)).getD aA.zero)).1) zE (by rw[e];exact hd) (by rw[e];exact hf);refine (hg.trans h3).mono fun z hz=>?_;rcases hz with hz|⟨y,hy,hz⟩
   ·exact ⟨x,List.mem_cons_self ..,hz⟩
   ·exact ⟨y,List.mem_cons_of_mem _ hy,hz⟩
def JA (p:bX) (z:Int):Prop:=∃(i:Nat) (u:List aj),0≤z-(2+2*p.met)∧(z-(2+2*p.met))/16=i∧p.tabs[i]?=some u∧∀x∈u,¬(x.1≤(z-(2+2*p.met))%16∧(z-(2+2*p.met))%16<x.1+x.2.1)
theorem BN {p:bX} (n:Int) (hm:cA p=true) (hd:p.disk.dead=false) (hf:p.disk.ah<0):mS p.disk (cX p n).1.disk (JA p):=by
 have hk:=(bF.1 hm).1;unfold cX;rw[if_neg (by rw[hm];simp),if_neg (by rw[hd];simp)]
 split
 ·exact mS.refl hk
 cases ht:bH n (br p.av n) (p.tabs,fun _=>none) with
 |none=>exact mS.refl hk
 |some s=>
  obtain ⟨c,f⟩:=s;have UZ:oK p.tabs:=fun t ht=>by have h:=(bF.1 hm).2.1;unfold cF at h;simp only[Bool.and_eq_true,List.all_eq_true] at h;have:=fY (h.1 t ht);omega
  have hF:=(kN ht UZ).2.2.2;have hC:=(nS ht (Sub.refl _)).2;have key:mS p.disk (bl p.met f (br p.av n) p.disk).1 (JA p):=by
   refine (nT (br p.av n) hk hd hf).mono fun z hz=>?_;obtain ⟨x,hx,h1,h2⟩:=hz;obtain ⟨y,hy⟩:=hF x hx;rw[hy] at h1 h2;simp only[Option.getD_some] at h1 h2;rcases hC _ _ hy with h|⟨⟨i,u,e1,e2,e3,e4,e5,e6⟩,x',jg,g1,g2,_⟩
   ·cases h
   ·have hxx:x'.1=x.1:=vF (jN jg).1 (jN hx).1 g1
    rw[hxx] at g2;have hs:=(bz _).1 (jN hx).1;have hs2:=gD hs.2.2.1 hs.2.2.2.1;rw[← g2] at hs2 h2;rw[e1] at h1 h2;refine ⟨i,u,by omega,by omega,e3,fun v hv=>?_⟩;refine e6 v hv _ ?_ ?_
    ·omega
    ·omega
  dsimp only
  split
  ·exact key
  ·exact key
theorem dL {p:bX} (h:dF p=true):bO p.av∧p.disk.kept.length≤200∧p.disk.cache.length≤200∧p.disk.keep.length≤400∧p.tabs.length≤40∧(∀t∈p.tabs,t.length≤40)∧p.av.length≤8:=by obtain ⟨h1,h2,h3,h4⟩:=CB.1 h;unfold uh at h1;unfold lU at h3;simp only[decide_eq_true_eq,Bool.and_eq_true,List.all_eq_true] at h1 h3;exact ⟨CD h2,h1.1,h1.2.1,h1.2.2,h3.2,h3.1,h4⟩
theorem bh.rows {w:World} {p:bX} {v:PV} (h:bh w p v):∃pk ck pc cc pp cp pv cv pt ct,v=⟨.slice pk p.disk.kept.length ck,.slice pc p.disk.cache.length cc,.slice pp p.disk.keep.length cp,.slice pv p.av.length cv,.slice pt p.tabs.length ct⟩:=by obtain ⟨vk,vc,vp,vv,vt⟩:=v;obtain ⟨pk,ck,e1,_,_⟩:=h.disk.kept.slice;obtain ⟨pc,cc,e2,_,_⟩:=h.disk.cache.slice;obtain ⟨pp,cp,e3,_,_⟩:=h.disk.keep.slice;obtain ⟨pv,cv,e4,_⟩:=h.av;obtain ⟨pt,ct,e5,_⟩:=h.tabs;simp only at e1 e2 e3 e4 e5;subst e1;subst e2;subst e3;subst e4;subst e5;exact ⟨pk,ck,pc,cc,pp,cp,pv,cv,pt,ct,rfl⟩
end Go.Proofs.YtbigkioechkngaaGreat
