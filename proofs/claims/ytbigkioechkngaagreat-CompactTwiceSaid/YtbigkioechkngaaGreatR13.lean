/- The proof, part 14. -/
import Derived.Test.YtbigkioechkngaaGreatR12
set_option maxRecDepth 100000
set_option maxHeartbeats 8000000
namespace Go.Proofs.YtbigkioechkngaaGreat
open Go.RowKit Tryz
variable {xs:List Value}{B k n:Nat}{v:Value}{w:World}
theorem Ar {p:cm} (h:¬(fZ p.disk=true∧cI p.tabs=true∧(1≤p.met∧p.met≤1000)∧(1≤p.gen∧p.gen<1099511627776)∧(p.aF=0∨p.aF=1)∧(p.disk.kept.length:Int)=2+2*p.met+16*p.tabs.length∧bX p.aw p.tabs.length=some (p.tabs.map aP))):cG p=false:=by rw[← Bool.not_eq_true,bO];exact h
theorem xL {l:List dx} {T:List (List aj)} (h:bX l n=some T):T.length=n:=by
 have go:∀(l:List ay) (A:List (List aj)),fY n A l=some T→T.length=A.length:=by
  intro l
  induction l with
  |nil=>intro A h;simp only[fY,Option.some.injEq] at h;rw[h]
  |cons p l ih=>
   intro A h;unfold fY at h
   split at h
   ·rw[ih _ h,CH]
   ·cases h
 unfold bX at h
 split at h
 ·rename_i h0
  cases hq:fY (n:Int).toNat (List.replicate (n:Int).toNat []) (aX l) with
  |none=>rw[hq] at h;cases h
  |some U=>
   rw[hq] at h;simp only at h
   split at h
   ·injection h with h;subst h
    rw[Int.toNat_natCast] at hq;rw[go _ _ hq,List.length_replicate]
   ·cases h
 ·cases h
theorem mA {p:Option Addr} {c:Nat} {l:List (List aj)} (h:dH w (.slice p n c) l):∀(i:Nat) x,l[i]?=some x→∃g o u,p=some ⟨g,o,none⟩∧w.cell? ⟨g,o+i,none⟩=some u∧dA w u x:=by obtain ⟨p',c',h1,_,_,h4⟩:=h;injection h1 with e _ _;subst e;exact h4
theorem oY (p:cm) (v:PV) (w:World) (h:br w p v) (ls:bM p.aw):Calls prog 15 #[eY p v] w fun e w'=>e=.returned (.bool (cG p))∧Bw w w':=by
 obtain ⟨W,hW⟩:=aG (w.alloc (.cells #[v.k,v.c,.int .i64 p.disk.ah,v.p,.bool p.disk.dead,.int .i64 p.met,.int .i64 p.gen,.int .i64 p.aF,v.v,v.t] 30));have HX:=aa (show vX W w.heap.size p v by rw[← hW];exact vX.new w p v _);have HB:=aa (show Bw w W by rw[← hW];exact ar);have HK:=aa (fun V (hb:Bw w V)=>vN p.disk v.k v.c v.p V (h.disk.below hb));have HT:=aa (fun V (hb:Bw w V)=>zK p.tabs v.t V (h.tabs.keep (af hb)));have HQ:=aa (fun V (hb:Bw w V)=>G7 p.aw p.tabs.length v.v V (h.aw.keep (af hb)) ls);have HP:=aa h;obtain ⟨pk,ck,ek,_,_⟩:=h.disk.kept.slice;obtain ⟨pc,cc,ec,_,_⟩:=h.disk.cache.slice;obtain ⟨pp,cp,ep,_,_⟩:=h.disk.keep.slice;obtain ⟨pt,ct,et,b1,b2⟩:=jo h.tabs;obtain ⟨pv,cv,ev,_⟩:=h.aw;have oI:=aa (@Ar p);have Es:=aa (@bO p);clear h ls;obtain ⟨⟨kept,cache,ah,keep,dead⟩,met,gen,aF,aw,tabs⟩:=p;obtain ⟨vk,vc,vp,vv,vt⟩:=v;simp only at ek ec ep et ev HX HK HT HQ HP oI Es hW b1;subst ek;subst ec;subst ep;subst et;subst ev;unfold eY at *;unfold vX at HX;unfold ew at HK;simp only at HX HK oI Es hW ⊢;obtain ⟨mk,jJ⟩:∃m,fZ ⟨kept,cache,ah,keep,dead⟩=m:=⟨_,rfl⟩
 rw[jJ] at HK oI Es;obtain ⟨mt,vV⟩:∃m,cI tabs=m:=⟨_,rfl⟩
 rw[vV] at HT oI Es;have Jt:=aa jJ;have Am:=aa vV;obtain ⟨KN,Ue⟩:∃n,kept.length=n:=⟨_,rfl⟩
 obtain ⟨TN,VD⟩:∃n,tabs.length=n:=⟨_,rfl⟩
 have HKN:=aa Ue;have RZ:=aa VD;have Kj:=aa (show (tabs.length:Int)≤9223372036854775807 by unfold maxLen at b2;omega);have HKB:=aa (Jt.o);rw[Ue] at HX oI Es hW HK;rw[VD] at HX oI Es hW HQ HT Kj;obtain ⟨r,hr⟩:=aG (cG ⟨⟨kept,cache,ah,keep,dead⟩,met,gen,aF,aw,tabs⟩);rw[hr] at oI Es;rw[hr,Ue,VD];clear jJ vV Ue VD hr b1 b2;go_enter func15,ntmps15;go_upto_region 1 with fail
 try rw[hW]
 clear hW;obtain ⟨c0,c1,c2,c3,c4,c5,c6,c7,c8,c9⟩:=HX.o;cases mk with
 |false=>have HF:=aa (show r=false from oI (fun h=>by have:=h.1;cases this));go_wp2_with (go_at_call 49;(refine (HK.o _ HB.o).mono ?_);rintro e w5 ⟨rfl,aR⟩;have bp:=bh HB aR;clear aR);go_ret;exact ⟨aN HF.symm,bp⟩
 |true=>
 cases mt with
 |false=>have HF:=aa (show r=false from oI (fun h=>by have:=h.2.1;cases this));go_wp2_with (first|(go_at_call 49;(with_reducible refine (HK.o _ HB.o).mono ?_);rintro e w5 ⟨rfl,aR⟩;have bp:=bh HB aR;have fK:=aa (ae aR c9);clear aR;have k9:=fK.o)|(go_at_call 50;(with_reducible refine (HT.o _ bp.o).mono ?_);rintro e w6 ⟨rfl,cV⟩;have cU:=bh bp cV;clear cV));go_ret;exact ⟨aN HF.symm,cU⟩
 |true=>
 have HPX:=aa (show vX W w.heap.size ⟨⟨kept,cache,ah,keep,dead⟩,met,gen,aF,aw,tabs⟩ ⟨.slice pk KN ck,.slice pc cache.length cc,.slice pp keep.length cp,.slice pv aw.length cv,.slice pt TN ct⟩ from ⟨c0,c1,c2,c3,c4,c5,c6,c7,c8,c9⟩);by_cases hok:(1≤met∧met≤1000)∧(1≤gen∧gen<1099511627776)∧(aF=0∨aF=1)
 case neg=>
  have HF:=aa (show r=false from oI (fun h=>hok ⟨h.2.2.1,h.2.2.2.1,h.2.2.2.2.1⟩));have kN:met<1∨(¬met<1∧1000<met)∨(¬met<1∧¬1000<met∧gen<1)∨(¬met<1∧¬1000<met∧¬gen<1∧1099511627776≤gen)∨(¬met<1∧¬1000<met∧¬gen<1∧¬1099511627776≤gen∧¬aF=0∧¬aF=1):=by omega
  clear hok;rcases kN with h1|⟨h1,h2⟩|⟨h1,h2,h3⟩|⟨h1,h2,h3,h4⟩|⟨h1,h2,h3,h4,h5,h6⟩
  all_goals
   first|(have d1:decide (met<1)=true:=decide_eq_true h1)|(have d1:decide (met<1)=false:=decide_eq_false h1)
   try first|(have d2:decide (1000<met)=true:=decide_eq_true h2)|(have d2:decide (1000<met)=false:=decide_eq_false h2)
   try first|(have d3:decide (gen<1)=true:=decide_eq_true h3)|(have d3:decide (gen<1)=false:=decide_eq_false h3)
   try first|(have d4:decide (1099511627776≤gen)=true:=decide_eq_true h4)|(have d4:decide (1099511627776≤gen)=false:=decide_eq_false h4)
   try have d5:(aF != 0)=true:=by simpa using h5
   try have d6:(aF != 1)=true:=by simpa using h6
   try clear h1
   try clear h2
   try clear h3
   try clear h4
   try clear h5
   try clear h6
   go_wp2_with (first|(go_at_call 49;(with_reducible refine (HK.o _ HB.o).mono ?_);rintro e w5 ⟨rfl,aR⟩;have bp:=bh HB aR;have fK:=aa (HPX.o.below aR);clear aR;have k9:=fK.o.2.2.2.2.2.2.2.2.2;simp only at k9)|(go_at_call 50;(with_reducible refine (HT.o _ bp.o).mono ?_);rintro e w6 ⟨rfl,cV⟩;have cU:=bh bp cV;have kS:=aa (fK.o.below cV);clear cV;obtain ⟨j0,j1,j2,j3,j4,j5,j6,j7,j8,j9⟩:=kS.o;simp only at j5 j6 j7));go_ret;exact ⟨aN HF.symm,cU⟩
 case pos=>
 have BG:=aa hok;have d1:decide (met<1)=false:=decide_eq_false (by omega);have d2:decide (1000<met)=false:=decide_eq_false (by omega);have d3:decide (gen<1)=false:=decide_eq_false (by omega);have d4:decide (1099511627776≤gen)=false:=decide_eq_false (by omega);have UC:1≤met:=hok.1.1;have yM:met≤1000:=hok.1.2;have Ms:1≤TN∧TN≤1000:=by have h:=Am.o;unfold cI at h;simp only[Bool.and_eq_true,decide_eq_true_eq] at h;rw[RZ.o] at h;exact h.2
 have FH:KN≤5000:=by have h:=((gu _).1 Jt).1.2.1;simp only at h;rw[HKN.o] at h;exact h
 have ha:((aF != 0)=false)∨((aF != 0)=true∧(aF != 1)=false):=by
  rcases hok.2.2 with h|h
  ·left;simpa using h
  ·right;subst h;exact ⟨rfl,rfl⟩
 clear hok;obtain ⟨Ms,R2⟩:=Ms;have e1:wrap64 (2*met)=2*met:=dN (by omega) (by omega);have e2:wrap64 (2+2*met)=2+2*met:=dN (by omega) (by omega);have e3:wrap64 (16*(TN:Int))=16*(TN:Int):=dN (by omega) (by omega);have e4:wrap64 (2+2*met+16*(TN:Int))=2+2*met+16*(TN:Int):=dN (by omega) (by omega);have HE:=aa (And.intro e1 (And.intro e2 (And.intro e3 e4)));clear e1 e2 e3 e4;have hkb:(KN:Int)≤9223372036854775807:=by omega
 have NV:(TN:Int)≤9223372036854775807:=by omega
 have HT1:=aa Ms;have HT2:=aa R2;have rZ:=aa (And.intro UC yM);clear FH Ms R2 UC yM;rcases ha with ha|⟨ha,ha'⟩
 all_goals
  go_upto_region 3 with (first|(go_at_call 49;(with_reducible refine (HK.o _ HB.o).mono ?_);rintro e w5 ⟨rfl,aR⟩;have bp:=bh HB aR;have fK:=aa (HPX.o.below aR);clear aR;have k9:=fK.o.2.2.2.2.2.2.2.2.2;simp only at k9)|(go_at_call 50;(with_reducible refine (HT.o _ bp.o).mono ?_);rintro e w6 ⟨rfl,cV⟩;have cU:=bh bp cV;have kS:=aa (fK.o.below cV);clear cV;obtain ⟨j0,j1,j2,j3,j4,j5,j6,j7,j8,j9⟩:=kS.o;simp only at j0 j5 j6 j7 j8 j9));clear d1 d2 d3 d4 ha
  try clear ha'
  obtain ⟨e1,e2,e3,e4⟩:=HE.o;by_cases hlen:(KN:Int)=2+2*met+16*TN
  case neg=>
   have HF:=aa (show r=false from oI (fun h=>hlen (by have:=h.2.2.2.2.2.1;exact this)));have dl:((KN:Int) != 2+2*met+16*(TN:Int))=true:=by simpa using hlen
   clear hlen;go_wp2_with fail;go_ret;exact ⟨aN HF.symm,cU⟩
  case pos=>
  have rC:=aa hlen;have dl:((KN:Int) != 2+2*met+16*(TN:Int))=false:=by simpa using hlen
  clear hlen;go_upto_region 5 with fail;clear dl e1 e2 e3 e4;have VE:=aa (HQ.o _ cU);obtain ⟨q,hq⟩:=aG (bX aw TN);have Et:=aa hq;clear hq;cases q with
  |none=>have HF:=aa (show r=false from oI (fun h=>by have:=h.2.2.2.2.2.2;rw[Et.o] at this;cases this));go_wp2_with (go_at_call 51;(refine VE.o.mono ?_);rintro e w7 Kk;unfold dg at Kk;rw[Et.o] at Kk;obtain ⟨rfl,dL⟩:=Kk;have fw:=bh cU dL;clear dL);go_ret;exact ⟨aN HF.symm,fw⟩
  |some T=>
   have Aq:=aa (xL Et);have HYX:=aa (show r=true↔tabs.map aP=T from ⟨fun h=>by
    have:=(Es.1 h).2.2.2.2.2.2;rw[Et.o] at this;injection this with this;exact this.symm,fun h=>Es.2 ⟨trivial,trivial,BG.1,BG.2.1,BG.2.2,rC,by rw[Et.o,h]⟩⟩)
   go_upto_region 8 with (go_at_call 51;(refine VE.o.mono ?_);rintro e w7 Kk;unfold dg at Kk;rw[Et.o] at Kk;obtain ⟨v7,rfl,Mp,dL⟩:=Kk;obtain ⟨p7,c7,rfl,ha1,ha2⟩:=jo Mp;rw[Aq.o];have Eo:=aa Mp;have fw:=bh cU dL;have lj:=aa (kS.o.below dL);clear dL Mp ha1 ha2);clear j0 j5 j6 j7 j8 j9;go_wp2_with fail;go_loopw [5] (fun i wr=>∃k:Nat,k≤TN∧i=.int .i64 k∧(∀(j:Nat) t u,j<k→tabs[j]?=some t→T[j]?=some u→aP t=u)∧Bw w wr∧Bw w7 wr) (fun i _=>TN-(intOf i).toNat)
   case atStart=>exact ⟨0,dO,rfl,fun j _ _ hj=>by omega,fw,aH⟩
   case round=>
    obtain ⟨k,hk,rfl,hall,hb,hb'⟩:=hrel;have ed:=aa hall;have gI:=aa hb;have ke:=aa hb';have k9:=(lj.below hb').2.2.2.2.2.2.2.2.2;simp only at k9;clear hall hb hb';by_cases hlt:k<TN
    case neg=>
     obtain rfl:k=TN:=by omega
     have HF:=aa (show r=true from HYX.2 (by
      apply List.ext_getElem (by rw[List.length_map,RZ.o,Aq.o]);intro j h1 h2;rw[List.getElem_map];rw[List.length_map,RZ.o] at h1;exact ed j _ _ h1 (List.getElem?_eq_getElem (by rw[RZ.o];exact h1)) (List.getElem?_eq_getElem h2)))
     go_wp2_with fail;go_ret;exact ⟨aN HF.symm,gI⟩
    case pos=>
     have fN:(k:Int)<(TN:Int):=(by omega);obtain ⟨t,ht⟩:=fx (l:=tabs) (k:=k) (by rw[RZ.o];exact hlt);obtain ⟨u,hu⟩:=fx (l:=T) (k:=k) (by rw[Aq.o];exact hlt);obtain ⟨g,o,u1,e1,y1,y2⟩:=(mA HP.tabs) k _ ht;obtain ⟨g',o',u2,e2,z1,z2⟩:=(mA Eo) k _ hu;subst e1;subst e2;obtain ⟨s1,rfl⟩:=y2.sl;obtain ⟨s2,rfl⟩:=z2.sl;unfold gY at *;have fJ:=aa gI.drew;have HST:=aa (show wr.drew.cell? ⟨w.heap.size,9,none⟩=_∧wr.drew.cell? ⟨g,o+k,none⟩=_∧wr.drew.cell? ⟨g',o'+k,none⟩=_ from ⟨ae aH.drew k9,ae fJ y1,ae ke.drew z1⟩);obtain ⟨q0,q1,q2⟩:=HST.o;have YX:=aa (y2.keep (af fJ));have CT:=aa (z2.keep (af ke.drew));have Ju:=aa (And.intro ht hu);have R3:=aa (show t.length≤1000 by
      have h:=Am.o;unfold cI at h;simp only[Bool.and_eq_true,List.all_eq_true] at h;have:=gP (h.1 t (List.mem_of_getElem? ht));omega)
     clear y1 y2 z1 z2 ht hu k9;obtain ⟨bq,yA⟩:∃b,nY (aP t) u=b:=⟨_,rfl⟩
     have vF:=aa yA;clear yA;go_upto_region 11 with fail;go_region_held3 (fun w'=>w'.cell? ⟨w.heap.size,9,none⟩=some (.slice (some ⟨g,o,none⟩) TN ct)∧w'.cell? ⟨g,o+k,none⟩=some (.slice s1.1 s1.2.1 s1.2.2)∧w'.cell? ⟨g',o'+k,none⟩=some (.slice s2.1 s2.2.1 s2.2.2))
      (first|exact ⟨q0,q1,q2⟩|exact ⟨gq.o.1,gq.o.2.1,gq.o.2.2⟩|exact ⟨lZ.o.1,lZ.o.2.1,lZ.o.2.2⟩)
      (first|((with_reducible refine (RY t R3.o _ _ YX.o).mono ?_);rintro e w8 ⟨v8,rfl,ho,hb⟩;have HU8:=aa (fj ho);have YY:=aa (CT.o.keep (af hb));have yq:=bh fJ hb;have YZ:=aa (ak ke.o.drew hb);have gq:=aa (show _∧_∧_ from ⟨ae hb q0,ae hb q1,ae hb q2⟩);clear hb ho)|((with_reducible refine (xx (aP t) u _ _ _ HU8.o YY.o).mono ?_);rintro e wa ⟨rfl,hb⟩;rw[vF.o];have jl:=bh yq hb;have Y0:=bh YZ hb;have lZ:=aa (show _∧_∧_ from ⟨ae hb gq.o.1,ae hb gq.o.2.1,ae hb gq.o.2.2⟩);clear hb))
     cases bq with
     |true=>
      have yO:=aa (show aP t=u by have:=vF.o;unfold nY at this;exact of_decide_eq_true this);go_wp2_with fail;go_roundw
      case rel=>
       refine ⟨k+1,by omega,by go_num,fun j t' u' hj ht hu=>?_,jl.o,Y0.o⟩;by_cases e:j=k
       ·subst e;rw[Ju.o.1] at ht;rw[Ju.o.2] at hu;cases ht;cases hu;exact yO.o
       ·exact ed j t' u' (by omega) ht hu
      case measure=>simp[intOf];omega
     |false=>
      have hsm:¬aP t=u:=by have:=vF.o;unfold nY at this;exact of_decide_eq_false this
      have HF:=aa (show r=false by
       rw[← Bool.not_eq_true,HYX.o];intro h;have h1:=congrArg (·[k]?) h;simp only[List.getElem?_map] at h1;rw[Ju.o.1,Ju.o.2] at h1;simp only[Option.map_some,Option.some.injEq] at h1;exact hsm h1)
      clear hsm;go_wp2_with fail;go_ret;exact ⟨aN HF.symm,jl⟩
theorem xW {g j nk ck:Nat} {e:TypeId} {u:Value} {ys:List Value} (h:w.ownsRow B e k v n xs) (hs:w.ownsRow B 9 1 (.slice (some ⟨g,0,none⟩) nk ck) nk ys) (hne:e≠9):(w.setCell ⟨g,j,none⟩ u).ownsRow B e k v n xs:=
 h.kept (av w g j u) (by
  rcases cP h hs hne with h1|h1
  ·exact .inl h1
  ·exact .inr h1)
theorem dw.cells' {α:Type} {p:Option Addr} {c:Nat} {f:α→List Value} {l:List α} (h:dw w (.slice p n c) k f l):∀i x,l[i]?=some x→∃g o,p=some ⟨g,o,none⟩∧∀j u,(f x)[j]?=some u→w.cell? ⟨g,o+i*k+j,none⟩=some u:=h.cells
theorem dD {b j:Nat} {e:TypeId} {u:Value} (h:w.ownsRow B e k v n xs) (hb:∀g,v.ownBlock=some g→g≠b):(w.setCell ⟨b,j,none⟩ u).ownsRow B e k v n xs:=
 h.kept (av w b j u) (by
  cases hv:v.ownBlock with
  |none=>exact .inl rfl
  |some g=>right;intro e;injection e with e;exact hb g hv e)
def afr (w:World) (B:Nat) (T:List ByteArray) (N M L:Nat) (cache:List fq) (keep:List Bool) (vk vc vp:Value) (f:Int) (dd:Bool) (i:Value) (wr:World):Prop:=∃(k:Nat) (s:List ByteArray),k≤M∧i=.int .i64 k∧s.length=N∧cK (cache.drop k) (keep.drop k) s=T∧wr.ownsRow B 9 1 vk N (bk kX s)∧wr.ownsRow B 47 2 vc M (bk ly cache)∧wr.ownsRow B 4 1 vp L (bQ keep) ∧
 aK wr w.heap.size [vk,vc,.int .i64 f,vp,.bool dd]∧aK wr (w.heap.size+1) [.slice none 0 0,.slice none 0 0,.int .i64 0,.slice none 0 0,.bool false]∧Below B w wr
theorem Tc (d:aO) (vk vc vp:Value) (w:World) (B:Nat) (hBw:B≤w.heap.size) (h:cX w B d vk vc vp) (pM:∀p∈d.cache,0≤p.1∧p.1<d.kept.length) (hl:d.kept.length≤1000000∧d.cache.length≤1000000∧d.keep.length≤1000000):Calls prog 136 #[ew d vk vc vp,vp] w fun e w'=>∃vk' vc' vp',e=.returned (ew ⟨cK d.cache d.keep d.kept,[],-1,[],true⟩ vk' vc' vp')∧cX w' B ⟨cK d.cache d.keep d.kept,[],-1,[],true⟩ vk' vc' vp'∧Below B w w':=by
 obtain ⟨pk,ck,rfl⟩:=ez h.kept;obtain ⟨pc,cc,rfl⟩:=ez h.cache;obtain ⟨pp,cp,rfl⟩:=ez h.keep;have HK:=aa h.kept;have HC:=aa h.cache;have HP:=aa h.keep;have fJ:=aa h.bd;have Sd:=aa pM;obtain ⟨kept,cache,ah,keep,dead⟩:=d;simp only at HK HC HP Sd hl ⊢;clear h pM;unfold ew;simp only;have mU:=aa hBw;have Fh:=aa (show ∀s∈cK cache keep kept,s.size≤maxLen from fun s hs=>by
  rcases oX _ _ _ s hs with h|⟨p,h,rfl⟩
  ·exact fJ.kept s h
  ·exact (fJ.cache p h).2)
 have zS:=aa (uG cache keep kept);obtain ⟨T,hT⟩:=aG (cK cache keep kept);rw[hT] at Fh zS ⊢;have HT:=aa hT;obtain ⟨N,hN⟩:=aG kept.length;obtain ⟨M,hM⟩:=aG cache.length;obtain ⟨L,hL⟩:=aG keep.length;have HN:=aa hN;have HM:=aa hM;have HL:=aa hL;rw[hN] at HK Sd hl zS;rw[hM] at HC hl;rw[hL] at HP hl;rw[hN,hM,hL];obtain ⟨l1,l2,l3⟩:=hl;have lN:(N:Int)≤9223372036854775807:=by omega
 have lM:(M:Int)≤9223372036854775807:=by omega
 have lL:(L:Int)≤9223372036854775807:=by omega
 have Hi:=aa (show ∀g,(Value.slice pk N ck).ownBlock=some g→g≠w.heap.size from fun g hg e=>by have:=(HK.lt g hg).2;omega);have O4:=aa (show ∀g,(Value.slice pk N ck).ownBlock=some g→g≠w.heap.size+1 from fun g hg e=>by have:=(HK.lt g hg).2;omega);clear hT hN hM hL hBw;obtain ⟨W1,hW1⟩:=aG ((w.alloc (.cells #[.slice pk N ck,.slice pc M cc,.int .i64 ah,.slice pp L cp,.bool dead] 26)).alloc (.cells #[.slice none 0 0,.slice none 0 0,.int .i64 0,.slice none 0 0,.bool false] 26));have aU:=aa (yH w [.slice pk N ck,.slice pc M cc,.int .i64 ah,.slice pp L cp,.bool dead] [.slice none 0 0,.slice none 0 0,.int .i64 0,.slice none 0 0,.bool false] 26 26);rw[hW1] at aU;have ee:=aa hW1;clear hW1;go_enter func136,ntmps136;go_upto_region 1 with fail;rw[ee.o];clear ee;obtain ⟨x0,x1,x2,x3,x4⟩:=aU.1.five;go_wp2_with fail;clear x0 x1 x2 x3 x4;go_loopw [10,5,6] (fun i _ _ wr=>afr w B T N M L cache keep (.slice pk N ck) (.slice pc M cc) (.slice pp L cp) ah dead i wr) (fun i _ _ _=>M-(intOf i).toNat)
 case atStart=>exact ⟨0,kept,dO,rfl,HN,by rw[List.drop_zero,List.drop_zero];exact HT,aL HK aU.2.2,aL HC aU.2.2,aL HP aU.2.2,aU.1,aU.2.1,aU.2.2.mono mU⟩
 case round=>
  obtain ⟨k,s,hk,rfl,wV,tj,Hc,GA,hrp,hx,hr,hb⟩:=hrel;have Ml:=aa wV;have jZ:=aa tj;have Jw:=aa Hc;have HRC:=aa GA;have Z0:=aa hrp;have HX:=aa hx;have HR:=aa hr;have HB:=aa hb;obtain ⟨x0,x1,x2,x3,x4⟩:=hx.five;clear wV tj Hc GA hrp hx hr hb;by_cases hlt:k<M
  case neg=>
   obtain rfl:k=M:=by omega
   have kI:=aa (show s=T by rw[← jZ.o,lA (.inl (by rw[HM.o];exact aT))]);have fx0:=HX.free 1;have fx1:=HX.free 3;have fx2:=HX.free 2;have fx3:=HX.free 4;go_upto_region 10 with fail;have hx2:=(((HX.set 1 (.slice none 0 0)).set 3 (.slice none 0 0)).set 2 (.int .i64 (-1))).set 4 (.bool true);simp only[List.set_cons_zero,List.set_cons_succ] at hx2;have hr2:=(((HR.far (b':=w.heap.size) (by omega) 1 (.slice none 0 0)).far (b':=w.heap.size) (by omega) 3 (.slice none 0 0)).far (b':=w.heap.size) (by omega) 2 (.int .i64 (-1))).far (b':=w.heap.size) (by omega) 4 (.bool true);have hb2:=(((HB.setCell (p:=⟨w.heap.size,1,none⟩) mU (.slice none 0 0)).setCell (p:=⟨w.heap.size,3,none⟩) mU (.slice none 0 0)).setCell (p:=⟨w.heap.size,2,none⟩) mU (.int .i64 (-1))).setCell (p:=⟨w.heap.size,4,none⟩) mU (.bool true);have hk2:(((( wr.setCell ⟨w.heap.size,1,none⟩ (.slice none 0 0)).setCell ⟨w.heap.size,3,none⟩ (.slice none 0 0)).setCell ⟨w.heap.size,2,none⟩ (.int .i64 (-1))).setCell ⟨w.heap.size,4,none⟩ (.bool true)).ownsRow B 9 1 (.slice pk N ck) N (bk kX T):=by rw[← kI.o];exact dD (dD (dD (dD Jw Hi) Hi) Hi) Hi.o
   obtain ⟨W2,hW2⟩:=aG (((( wr.setCell ⟨w.heap.size,1,none⟩ (.slice none 0 0)).setCell ⟨w.heap.size,3,none⟩ (.slice none 0 0)).setCell ⟨w.heap.size,2,none⟩ (.int .i64 (-1))).setCell ⟨w.heap.size,4,none⟩ (.bool true));rw[hW2] at hx2 hr2 hb2 hk2 ⊢;have dV:=aa hx2;have jO:=aa hr2;have bS:=aa hb2;have UQ:=aa hk2;clear hW2 hx2 hr2 hb2 hk2 x0 x1 x2 x3 x4 fx0 fx1 fx2 fx3;obtain ⟨x0,x1,x2,x3,x4⟩:=dV.five;obtain ⟨z0,z1,z2,z3,z4⟩:=jO.five;obtain ⟨f0,f1,f2,f3,f4⟩:=jO.gJ;go_wp2_with fail;have Ks:=aa (jO.mP (.slice pk N ck) (.slice none 0 0) (.int .i64 (-1)) (.slice none 0 0) (.bool true));obtain ⟨g0,g1,g2,g3,g4⟩:=Ks.five;refine au (v:=.agg #[.slice pk N ck,.slice none 0 0,.int .i64 (-1),.slice none 0 0,.bool true]) ⟨_,_,_,rfl,⟨?_,World.ownsRow_nil _ _ _ _,World.ownsRow_nil _ _ _ _,⟨Fh,fun p hp=>by simp at hp,by unfold aQ;simp⟩⟩,cR bS (b:=w.heap.size+1) (by have:=mU.o;omega) _ _ _ _ _⟩ ?_
   ·simp only
    rw[zS.o];exact dD (dD (dD (dD (dD UQ O4) O4) O4) O4) O4.o
   simp[results,results136,go_sem,g0,g1,g2,g3,g4]
  case pos=>
   have fN:(k:Int)<(M:Int):=(by omega);have MQ:(0:Int)≤(k:Int):=by omega
   obtain ⟨⟨y,u⟩,hs⟩:∃s,cache[k]?=some s:=⟨_,List.getElem?_eq_getElem (by rw[HM.o];exact hlt)⟩
   obtain ⟨g,o,rfl,hcell⟩:=(kx l6 HM HRC).cells' k _ hs;have r0:=hcell 0 _ rfl;have r1:=hcell 1 _ rfl;replace r0:wr.cell? ⟨g,o+k*2,none⟩=some (.int .i64 y):=r0;replace r1:wr.cell? ⟨g,o+k*2+1,none⟩=some (.string u):=r1;obtain ⟨y0,y1⟩:=Sd.o _ (List.mem_of_getElem? hs);simp only at y0 y1;have HS:=aa hs;clear hcell hs;by_cases vh:k<L
   case neg=>
    have fX:=aa (show cK (cache.drop (k+1)) (keep.drop (k+1)) s=T by
     have h:=jZ.o;rw[lA (.inr (by rw[HL.o];omega))] at h;rw[lA (.inr (by rw[HL.o];omega))];exact h)
    have hd:decide ((k:Int)<(L:Int))=false:=decide_eq_false (by omega);have QP:decide (k<L)=false:=decide_eq_false vh;go_wp2_with fail;go_roundw
    case rel=>have iY:Bw wr (wr.alloc (.cells #[.int .i64 y,.string u] 47)):=ar;exact ⟨k+1,s,by omega,by go_num,Ml.o,fX.o,aL Jw.o iY,aL HRC.o iY,aL Z0.o iY,HX.o.below iY,HR.o.below iY,HB.o.trans (iY.mono (Nat.le_trans mU.o (by have:=HR.o.lt;omega)))⟩
    case measure=>simp[intOf];omega
   case pos=>
    have akG:(k:Int)<(L:Int):=(by omega);have hd:decide ((k:Int)<(L:Int))=true:=decide_eq_true akG;have QP:decide (k<L)=true:=decide_eq_true vh;obtain ⟨bb,yA⟩:∃b,keep[k]?=some b:=⟨_,List.getElem?_eq_getElem (by rw[HL.o];exact vh)⟩
    obtain ⟨gp,op,rfl,rb⟩:=(eD HL Z0).cells k _ yA;have fX:=aa (sK (s:=s) HS yA);simp only at fX;clear yA;cases bb with
    |false=>
     have Wq:=aa (show cK (cache.drop (k+1)) (keep.drop (k+1)) s=T by rw[← jZ.o,fX.o];rfl);obtain ⟨W2,hW2⟩:=aG (wr.alloc (.cells #[.int .i64 y,.string u] 47));have iY:Bw wr W2:=by rw[← hW2];exact ar
     have jl:=aa iY;have Fj:=aa (ae iY rb);go_upto_region 4 with fail
     try rw[hW2]
     clear hW2 iY rb;have rb:=Fj.o;go_wp2_with fail;go_roundw
     case rel=>exact ⟨k+1,s,by omega,by go_num,Ml.o,Wq.o,aL Jw.o jl.o,aL HRC.o jl.o,aL Z0.o jl.o,HX.o.below jl.o,HR.o.below jl.o,HB.o.trans (jl.o.mono (Nat.le_trans mU.o (by have:=HR.o.lt;omega)))⟩
     case measure=>simp[intOf];omega
    |true=>
     obtain ⟨Y,rfl⟩:∃Y:Nat,y=Y:=⟨y.toNat,by omega⟩
     have Wq:=aa (show cK (cache.drop (k+1)) (keep.drop (k+1)) (s.set Y u)=T by rw[← jZ.o,fX.o,if_pos rfl,Int.toNat_natCast]);rcases aJ Jw.o with ⟨_,e,_⟩|⟨gk,asl,hvk⟩
     ·omega
     injection hvk with e1 _ e3;subst e1;subst e3;have fk:=gj Jw Y;obtain ⟨z,hz⟩:=fx (l:=s) (k:=Y) (by rw[Ml.o];omega);have ck0:wr.cell? ⟨gk,Y,none⟩=some (.string z):=by obtain ⟨h6,h7⟩:=List.getElem?_eq_some_iff.1 (eN jd s Y z 0 (.string z) hz rfl);have:=bG Jw _ h6;rw[h7] at this;simpa using this
     have hgk:=(Jw.lt gk rfl).2;obtain ⟨W2,hW2⟩:=aG (wr.alloc (.cells #[.int .i64 Y,.string u] 47));have iY:Bw wr W2:=by rw[← hW2];exact ar
     have pK:=aa (show aK W2 wr.heap.size [.int .i64 Y,.string u] by rw[← hW2];exact aK.new wr _ _);have Td:=aa (aL Jw iY);have akI:=aa (aL HRC iY);have akJ:=aa (aL Z0 iY);have dV:=aa (HX.below iY);have jO:=aa (HR.below iY);have bS:=aa (HB.trans (iY.mono (Nat.le_trans mU (by have:=HR.lt;omega))));have Fj:=aa (And.intro (ae iY rb) (ae iY ck0));have HZ:=aa hz;go_upto_region 4 with fail
     try rw[hW2]
     clear hW2 iY x0 x1 x2 x3 x4 r0 r1 rb fk ck0 hz;obtain ⟨x0,x1,x2,x3,x4⟩:=dV.five;obtain ⟨p0,p1⟩:=pK.two;have fk:=gj Td Y;obtain ⟨rb,ck0⟩:=Fj.o;go_wp2_with fail;have UO:=aa (yR jd Td (show Y<s.length by rw[Ml.o];omega) (x:=u) (a:=.string u) rfl);have QC:=aa (xW (j:=Y) (u:=.string u) akI Td (by decide));have HPS:=aa (xW (j:=Y) (u:=.string u) akJ Td (by decide));have hg1:=Hi.o gk rfl;have hg2:=O4.o gk rfl;have HXS:=aa (dV.far (b':=gk) hg1 Y (.string u));have Nn:=aa (jO.far (b':=gk) hg2 Y (.string u));have yC:=aa (bS.setCell (p:=⟨gk,Y,none⟩) (Td.lt gk rfl).1 (.string u));go_roundw
     case rel=>exact ⟨k+1,s.set Y u,by omega,by go_num,by rw[List.length_set];exact Ml.o,Wq.o,UO.o,QC.o,HPS.o,HXS.o,Nn.o,yC.o⟩
     case measure=>simp[intOf];omega
theorem iI {e:TypeId} (h:w.ownsRow B e k v n xs):∃p m c,v=.slice p m c:=by obtain ⟨p,c,h⟩:=ez h;exact ⟨p,n,c,h⟩
theorem aK.gS {W W':World} {b:Nat} {cs:List Value} (h:aK W b cs) (hb:Below B W W') (hlt:b<B):aK W' b cs:=by obtain ⟨T,h⟩:=h;exact ⟨T,(hb.block b hlt).trans h⟩
theorem Te:(prog.info? 47).map (fun i=>(i.zero,i.size,i.bytes))=some (some (.agg #[.int .i64 0,.string ⟨#[]⟩]),2,24):=by kernel_rfl
theorem II (W:World) (B n:Nat) (v:Value) (l:List fq) (x:fq) (hown:W.ownsRow B 47 2 v n (bk ly l)) (hn:n≤100000000) (hB:B≤W.heap.size) :
 ∃g cap w2,(Builtin.append_ #[23,23] 23 #[v,.slice (some ⟨W.heap.size,0,none⟩) 1 1]).run prog (W.alloc (.cells #[.int .i64 x.1,.string x.2] 47))=.ok (.slice (some ⟨g,0,none⟩) (n+1) cap) w2∧ku W w2 B n 47 2 v (bk ly l) (ly x) g cap:=by
 obtain ⟨i0,iM,hz0,hz1,hz2⟩:=info_parts Te;exact eV 23 47 i0 _ 2 24 underlying23 iM hz0 hz1 hz2 rfl (by decide) (by decide) W B n v (bk ly l) (ly x) hown rfl (by intro u hu;unfold ly at hu;simp only[List.mem_cons,List.not_mem_nil,or_false] at hu;rcases hu with rfl|rfl <;> rfl) hn hB
def Tf (w:World) (r:aO×Int) (e:Ending) (w':World):Prop:=∃vk vc vp,e=.returned (.tuple #[ew r.1 vk vc vp,.int .i64 r.2])∧cX w' w.heap.size r.1 vk vc vp∧Bw w w'
theorem xX (d:aO) (pos:Int) (s:ByteArray) (vk vc vp:Value) (w:World) (h:bN w d vk vc vp) (vh:d.keep.length≤1000000) (hs:s.size≤maxLen) (tG:aQ pos):Calls prog 83 #[ew d vk vc vp,.int .i64 pos,.string s] w (Tf w (cF d pos s)):=by
 have eJ:=aa (fun W (hb:Bw w W)=>wL d vk vc vp W (h.below hb));have tk:=aa (fun (hm:fZ d=true) (W:World) (hb:Bw w W)=>K4 d vk vc vp W (h.below hb) (by have:=((gu d).1 hm).1;omega));obtain ⟨pk,ck,rfl,a1,a2⟩:=h.kept.slice;obtain ⟨pc,cc,rfl,b1,b2⟩:=h.cache.slice;obtain ⟨pp,cp,rfl,_,_⟩:=h.keep.slice;obtain ⟨r,hr⟩:=aG (cF d pos s);rw[hr];have HR:=aa hr;unfold cF at HR;obtain ⟨m,hm⟩:=aG (fZ d);have yN:=aa (gu d);rw[hm] at eJ tk HR yN;have HM:=aa hm;have fJ:=aa h.bd;obtain ⟨kept,cache,ah,keep,dead⟩:=d;simp only at a1 b1 vh HR yN fJ ⊢;unfold ew S5 at *;simp only at eJ tk ⊢;have Qq:=aa (fun (W:World)=>wK pk pc pp kept.length ck cache.length cc keep.length cp ah pos dead W (by omega));obtain ⟨N,hN⟩:=aG kept.length;obtain ⟨M,hM⟩:=aG cache.length;obtain ⟨L,hL⟩:=aG keep.length;rw[hN,hM,hL] at eJ tk Qq ⊢;rw[hN,hM] at HR yN;rw[hN] at a1;rw[hM] at b1;rw[hL] at vh;have HN:=aa hN;have rZ:=aa hM;have Kc:=aa hL;have lN:=fG (n:=N) a2;have lM:=fG (n:=M) b2;have lS:=fG (n:=s.size) hs;have XS:=aa (And.intro hs tG);have vn:=aa vh;clear h hr hm hN hM hL a1 a2 b1 b2 hs tG vh;obtain ⟨W1,hW1⟩:=aG ((w.alloc (.cells #[.slice pk N ck,.slice pc M cc,.int .i64 ah,.slice pp L cp,.bool dead] 26)).alloc (.cells #[.slice none 0 0,.slice none 0 0,.int .i64 0,.slice none 0 0,.bool false] 26));have aU:=aa (yH w [.slice pk N ck,.slice pc M cc,.int .i64 ah,.slice pp L cp,.bool dead] [.slice none 0 0,.slice none 0 0,.int .i64 0,.slice none 0 0,.bool false] 26 26);rw[hW1] at aU;have ee:=aa hW1;clear hW1;go_enter func83,ntmps83;go_upto_region 1 with fail;rw[ee.o];clear ee;obtain ⟨x0,x1,x2,x3,x4⟩:=aU.1.five;cases m with
 |false=>have HE:=aa (show r=(iU,1) by rw[← HR.o,if_pos rfl]);go_wp2_with (go_at_call 62;(refine (eJ.o _ aU.o.2.2).mono ?_);rintro e w2 ⟨rfl,hb⟩;have bS:=aa (ak aU.o.2.2 hb);have jO:=aa (aU.o.2.1.below hb);clear hb;obtain ⟨z0,z1,z2,z3,z4⟩:=jO.o.five;obtain ⟨f0,f1,f2,f3,f4⟩:=jO.o.gJ);have HOD:=aa (show cX w2 (w.heap.size+2) iU (.slice none 0 0) (.slice none 0 0) (.slice none 0 0) from ⟨World.ownsRow_nil _ _ _ _,World.ownsRow_nil _ _ _ _,World.ownsRow_nil _ _ _ _,⟨fun s h=>by simp[iU] at h,fun s h=>by simp[iU] at h,by unfold iU aQ;simp⟩⟩);have tK:=aa (jO.mP (.slice none 0 0) (.slice none 0 0) (.int .i64 0) (.slice none 0 0) (.bool false));obtain ⟨g0,g1,g2,g3,g4⟩:=tK.five;refine au (v:=.tuple #[.agg #[.slice none 0 0,.slice none 0 0,.int .i64 0,.slice none 0 0,.bool false],.int .i64 1]) ⟨_,_,_,by rw[HE.o];rfl,by rw[HE.o];exact cX.mono ((((((HOD).bc (by omega)).bc (by omega)).bc (by omega)).bc (by omega)).bc (by omega)) (by omega),cR bS (b:=w.heap.size+1) (by omega) _ _ _ _ _⟩ ?_;simp[results,results83,go_sem,g0,g1,g2,g3,g4]
 |true=>
 have hr0:=HR.o;rw[if_neg (by simp)] at hr0;have xe:=aa hr0;clear hr0;go_upto_region 3 with (go_at_call 62;(refine (eJ.o _ aU.o.2.2).mono ?_);rintro e w2 ⟨rfl,hb⟩;have bS:=aa (ak aU.o.2.2 hb);have jO:=aa (aU.o.2.1.below hb);have dV:=aa (aU.o.1.below hb);clear hb);clear x0 x1 x2 x3 x4;obtain ⟨x0,x1,x2,x3,x4⟩:=dV.five;have hS2:w.heap.size+2≤w2.heap.size:=by have:=jO.lt;omega
 go_upto_region 4 with (go_at_call 135;(refine (tk.o trivial _ bS.o).mono ?_);(rintro e w3 ⟨v1,v2,v3,rfl,ho,hb⟩);(obtain ⟨p3,c3,e1⟩:=ez ho.kept);(obtain ⟨q3,d3,e2⟩:=ez ho.cache);(obtain ⟨r3,e3,e4⟩:=ez ho.keep);(simp only at e1 e2 e4);(rw[HN.o] at e1);(rw[rZ.o] at e2);(rw[Kc.o] at e4);(subst e1;subst e2;subst e4);(unfold ew);(have qi:=aa (ho.mono hS2));(have dF:=bh bS hb);(have vZ:=aa (jO.o.below hb));(have kD:=aa (dV.o.below hb));(have hS3:=Nat.le_trans hS2 hb.size);(clear hb ho));obtain ⟨W4,pT⟩:=aG (w3.alloc (.cells #[.slice p3 N c3,.slice q3 M d3,.int .i64 ah,.slice r3 L e3,.bool dead] 26));have HQ4:=aa (show aK W4 w3.heap.size [.slice p3 N c3,.slice q3 M d3,.int .i64 ah,.slice r3 L e3,.bool dead] by rw[← pT];exact aK.new w3 _ _);have hb4:Bw w3 W4:=by rw[← pT];exact ar
 have pG:=aa (qi.low hb4);have fW:=bh dF hb4;have Ha:=aa (vZ.below hb4);have jK:=aa (kD.below hb4);rw[pT];clear pT hb4 x0 x1 x2 x3 x4;obtain ⟨x0,x1,x2,x3,x4⟩:=jK.five;obtain ⟨y0,y1,y2,y3,y4⟩:=HQ4.five;cases dead with
 |true=>have HE:=aa (show r=(⟨kept,cache,ah,keep,true⟩,90) by rw[← xe.o,if_pos rfl]);obtain ⟨z0,z1,z2,z3,z4⟩:=Ha.five;obtain ⟨f0,f1,f2,f3,f4⟩:=Ha.gJ;go_wp2_with fail;have tK:=aa (Ha.mP (.slice p3 N c3) (.slice q3 M d3) (.int .i64 ah) (.slice r3 L e3) (.bool true));obtain ⟨g0,g1,g2,g3,g4⟩:=tK.five;refine au (v:=.tuple #[.agg #[.slice p3 N c3,.slice q3 M d3,.int .i64 ah,.slice r3 L e3,.bool true],.int .i64 90]) ⟨_,_,_,by rw[HE.o];rfl,by rw[HE.o];exact cX.mono ((((((pG).bc (by omega)).bc (by omega)).bc (by omega)).bc (by omega)).bc (by omega)) (by omega),cR fW (b:=w.heap.size+1) (by omega) _ _ _ _ _⟩ ?_;simp[results,results83,go_sem,g0,g1,g2,g3,g4]
 |false=>
 have xS:=xe.o;rw[if_neg (by simp)] at xS;have oy:=aa xS;clear xS;by_cases kN:pos<0∨(N:Int)≤pos∨¬s.size=32∨20000≤M
 case pos=>
  have HE:=aa (show r=(⟨kept,cache,ah,keep,false⟩,1) by rw[← oy.o,if_pos kN]);have hc:¬(0≤pos∧pos<(N:Int))∨((0≤pos∧pos<(N:Int))∧¬s.size=32)∨((0≤pos∧pos<(N:Int))∧s.size=32∧M=20000):=by have:=(yN.1 trivial).1.2.2.1;omega
  clear kN;rcases hc with h1|⟨h1,h2⟩|⟨h1,h2,h3⟩
  ·have HT:=aa (show decide (0≤pos∧pos<(N:Int))=false from decide_eq_false h1)
   clear h1;go_upto_region 7 with (go_at_call 116;(refine (Qq.o _).mono ?_);rintro e w5 ⟨rfl,hb⟩;rw[HT.o];have bp:=bh fW hb;have Lb:=aa (Ha.o.below hb);have fK:=aa (jK.o.below hb);have yX:=aa (HQ4.o.below hb);have BW:=aa (pG.o.low hb);clear hb);clear x0 x1 x2 x3 x4 y0 y1 y2 y3 y4;obtain ⟨y0,y1,y2,y3,y4⟩:=yX.five;have oy:=Lb;obtain ⟨z0,z1,z2,z3,z4⟩:=oy.five;obtain ⟨f0,f1,f2,f3,f4⟩:=oy.gJ;go_wp2_with fail;have tK:=aa (oy.mP (.slice p3 N c3) (.slice q3 M d3) (.int .i64 ah) (.slice r3 L e3) (.bool false));obtain ⟨g0,g1,g2,g3,g4⟩:=tK.five;refine au (v:=.tuple #[.agg #[.slice p3 N c3,.slice q3 M d3,.int .i64 ah,.slice r3 L e3,.bool false],.int .i64 1]) ⟨_,_,_,by rw[HE.o];rfl,by rw[HE.o];exact cX.mono ((((((BW).bc (by omega)).bc (by omega)).bc (by omega)).bc (by omega)).bc (by omega)) (by omega),cR bp (b:=w.heap.size+1) (by omega) _ _ _ _ _⟩ ?_;simp[results,results83,go_sem,g0,g1,g2,g3,g4]
  ·have HT:=aa (show decide (0≤pos∧pos<(N:Int))=true from decide_eq_true h1)
   have tt1:((s.size:Int) != 32)=true:=by simp;omega
   have tt2:(s.size != 32)=true:=(by simp[h2]);clear h1 h2;go_upto_region 7 with (go_at_call 116;(refine (Qq.o _).mono ?_);rintro e w5 ⟨rfl,hb⟩;rw[HT.o];have bp:=bh fW hb;have Lb:=aa (Ha.o.below hb);have fK:=aa (jK.o.below hb);have yX:=aa (HQ4.o.below hb);have BW:=aa (pG.o.low hb);clear hb);clear x0 x1 x2 x3 x4 y0 y1 y2 y3 y4;obtain ⟨y0,y1,y2,y3,y4⟩:=yX.five;have oy:=Lb;obtain ⟨z0,z1,z2,z3,z4⟩:=oy.five;obtain ⟨f0,f1,f2,f3,f4⟩:=oy.gJ;go_wp2_with fail;have tK:=aa (oy.mP (.slice p3 N c3) (.slice q3 M d3) (.int .i64 ah) (.slice r3 L e3) (.bool false));obtain ⟨g0,g1,g2,g3,g4⟩:=tK.five;refine au (v:=.tuple #[.agg #[.slice p3 N c3,.slice q3 M d3,.int .i64 ah,.slice r3 L e3,.bool false],.int .i64 1]) ⟨_,_,_,by rw[HE.o];rfl,by rw[HE.o];exact cX.mono ((((((BW).bc (by omega)).bc (by omega)).bc (by omega)).bc (by omega)).bc (by omega)) (by omega),cR bp (b:=w.heap.size+1) (by omega) _ _ _ _ _⟩ ?_;simp[results,results83,go_sem,g0,g1,g2,g3,g4]
  ·have HT:=aa (show decide (0≤pos∧pos<(N:Int))=true from decide_eq_true h1)
   have tt1:((s.size:Int) != 32)=false:=by simp;omega
   have tt2:(s.size != 32)=false:=(by simp[h2]);have tt3:((M:Int)==20000)=true:=by simp;omega
   have tt4:(M==20000)=true:=(by simp[h3]);clear h1 h2 h3;go_upto_region 7 with (go_at_call 116;(refine (Qq.o _).mono ?_);rintro e w5 ⟨rfl,hb⟩;rw[HT.o];have bp:=bh fW hb;have Lb:=aa (Ha.o.below hb);have fK:=aa (jK.o.below hb);have yX:=aa (HQ4.o.below hb);have BW:=aa (pG.o.low hb);clear hb x0 x1 x2 x3 x4;obtain ⟨x0,x1,x2,x3,x4⟩:=fK.o.five);clear x0 x1 x2 x3 x4 y0 y1 y2 y3 y4;obtain ⟨y0,y1,y2,y3,y4⟩:=yX.five;have oy:=Lb;obtain ⟨z0,z1,z2,z3,z4⟩:=oy.five;obtain ⟨f0,f1,f2,f3,f4⟩:=oy.gJ;go_wp2_with fail;have tK:=aa (oy.mP (.slice p3 N c3) (.slice q3 M d3) (.int .i64 ah) (.slice r3 L e3) (.bool false));obtain ⟨g0,g1,g2,g3,g4⟩:=tK.five;refine au (v:=.tuple #[.agg #[.slice p3 N c3,.slice q3 M d3,.int .i64 ah,.slice r3 L e3,.bool false],.int .i64 1]) ⟨_,_,_,by rw[HE.o];rfl,by rw[HE.o];exact cX.mono ((((((BW).bc (by omega)).bc (by omega)).bc (by omega)).bc (by omega)).bc (by omega)) (by omega),cR bp (b:=w.heap.size+1) (by omega) _ _ _ _ _⟩ ?_;simp[results,results83,go_sem,g0,g1,g2,g3,g4]
 case neg=>
  have RN:=oy.o;rw[if_neg kN] at RN;have rH:=aa RN;clear RN;have HT:=aa (show decide (0≤pos∧pos<(N:Int))=true from decide_eq_true (by omega));have tt1:((s.size:Int) != 32)=false:=by simp;omega
  have tt2:(s.size != 32)=false:=by simp;omega
  have tt3:((M:Int)==20000)=false:=by simp;omega
  have tt4:(M==20000)=false:=by simp;omega
  have yV:=aa (show M<20000 by omega);have UE:=aa (show 0≤pos∧pos<(N:Int) by omega);have akL:=aa (show s.size=32 by omega);have ll:=aa (show (kept.length=N∧(cache++[(pos,s)]).length=M+1∧keep.length=L) from ⟨HN,by rw[List.length_append,rZ.o];rfl,Kc⟩);clear kN;go_upto_region 8 with (go_at_call 116;(refine (Qq.o _).mono ?_);rintro e w5 ⟨rfl,hb⟩;rw[HT.o];have bp:=bh fW hb;have Lb:=aa (Ha.o.below hb);have fK:=aa (jK.o.below hb);have yX:=aa (HQ4.o.below hb);have BW:=aa (pG.o.low hb);clear hb x0 x1 x2 x3 x4;obtain ⟨x0,x1,x2,x3,x4⟩:=fK.o.five);clear x0 x1 x2 x3 x4 y0 y1 y2 y3 y4 tt1 tt2 tt3 tt4;have y1:=yX.cell (j:=1) rfl;have hS5:w3.heap.size<w5.heap.size:=yX.lt;have Z1:=aa (show ∀v e k n xs,w3.ownsRow (w.heap.size+2) e k v n xs→∀g,v.ownBlock=some g→g≠w3.heap.size from fun v e k n xs h g hg e'=>by have:=(h.lt g hg).2;omega);have vW:=BW.cache;simp only at vW;rw[rZ.o] at vW;obtain ⟨g6,EK,w6,hrun,bY⟩:=II w5 (w.heap.size+2) M _ cache (pos,s) vW (by have:=yV.o;omega) (by omega);simp only at hrun;have dJ:=aa hrun;have yD:=aa bY;have Uj:=BW.kept;simp only at Uj;rw[HN.o] at Uj;have hpr:=BW.keep;simp only at hpr;rw[Kc.o] at hpr;have HKR:=aa ((bY.others _ _ _ _ _ _ Uj (cP Uj vW (by decide))).1);have Vs:=aa ((bY.others _ _ _ _ _ _ hpr (cP hpr vW (by decide))).1);have Mm:=aa bY.row;have hgo:=qi.cache;simp only at hgo;rw[rZ.o] at hgo;have HG6:=aa (show g6≠w3.heap.size by
   rcases bY.at_ with e|e
   ·exact Z1 _ _ _ _ _ hgo g6 (by rw[← e];rfl)
   ·omega)
  have hne:∀b,b<w.heap.size+2→some b≠(Value.slice q3 M d3).ownBlock:=fun b hb e=>by have:=(vW.lt b e.symm).1;omega
  have Z2:some w3.heap.size≠(Value.slice q3 M d3).ownBlock:=fun e=>Z1 _ _ _ _ _ hgo _ e.symm rfl;have VE:=aa (yX.grown bY.grown Z2);have akM:=aa (Lb.grown bY.grown (hne _ (by omega)));have cU:=aa (show Bw w w6 from bp.trans (bY.below.mono (by omega)));have q61:=VE.cell (j:=1) rfl;have akO:=VE.free 1;have hkg:=qi.kept;have hpg:=qi.keep;have Hi:=aa (Z1.o _ _ _ _ _ hkg);have HGP:=aa (Z1.o _ _ _ _ _ hpg);clear hrun bY Uj hpr vW hgo hne Z2 hkg hpg;go_upto_region 9 with (at_builtin;refine Lib.wpList_append_run _ rfl _ _ _ _ rfl _ _ rfl rfl _ _ dJ.o ?_);obtain ⟨W7,yS⟩:=aG (w6.setCell ⟨w3.heap.size,1,none⟩ (.slice (some ⟨g6,0,none⟩) (M+1) EK));have HQ7:=aa (show aK W7 w3.heap.size [.slice p3 N c3,.slice (some ⟨g6,0,none⟩) (M+1) EK,.int .i64 ah,.slice r3 L e3,.bool false] by rw[← yS];exact VE.set 1 _);have Ev:=aa (show aK W7 (w.heap.size+1) [.slice none 0 0,.slice none 0 0,.int .i64 0,.slice none 0 0,.bool false] by rw[← yS];exact akM.far (by omega) _ _);have fw:=aa (show Bw w W7 by rw[← yS];exact cU.setCell (p:=⟨w3.heap.size,1,none⟩) (by show w.heap.size≤w3.heap.size;omega) _);have pP:=aa (show cX W7 (w.heap.size+2) ⟨kept,cache++[(pos,s)],ah,keep,false⟩ (.slice p3 N c3) (.slice (some ⟨g6,0,none⟩) (M+1) EK) (.slice r3 L e3) by
   rw[← yS];refine ⟨?_,?_,?_,⟨fJ.kept,fun p hp=>?_,fJ.ah⟩⟩
   ·simp only;rw[HN.o];exact dD HKR Hi.o
   ·simp only;rw[List.length_append,rZ.o,← fC];exact dD Mm (fun g hg=>by
     have:g=g6:=(by simpa [Value.ownBlock] using hg.symm);rw[this];exact HG6)
   ·simp only;rw[Kc.o];exact dD Vs HGP.o
   ·rcases List.mem_append.1 hp with hp|hp
    ·exact fJ.cache p hp
    ·simp only[List.mem_singleton] at hp;subst hp;exact ⟨XS.2,XS.1⟩)
  rw[yS];clear yS y1 q61 akO;obtain ⟨y0,y1,y2,y3,y4⟩:=HQ7.five;have hS7:w3.heap.size<W7.heap.size:=HQ7.lt;by_cases hf0:ah=0
  case pos=>
   subst hf0;have HE:=aa (show r=(⟨cK (cache++[(pos,s)]) keep kept,[],-1,[],true⟩,90) by
    rw[← rH.o,if_pos rfl];unfold yz;rw[if_neg (by
     rw[Bool.not_eq_false,gu];obtain ⟨⟨k1,k2,k3,k4⟩,k5,k6⟩:=yN.1 trivial;simp only;refine ⟨⟨by rw[HN.o];omega,by rw[HN.o];omega,by rw[List.length_append,rZ.o];have:=yV.o;simp;omega,by omega⟩,k5,fun p hp=>?_⟩;rcases List.mem_append.1 hp with hp|hp
     ·exact ⟨(k6 p hp).1,by rw[HN.o];exact (k6 p hp).2.1,(k6 p hp).2.2⟩
     ·simp only[List.mem_singleton] at hp;subst hp
      have h1:=UE.o;refine ⟨h1.1,by rw[HN.o];exact h1.2,?_⟩;exact akL)])
   have En:=aa (Tc ⟨kept,cache++[(pos,s)],0,keep,false⟩ _ _ _ W7 (w.heap.size+2) (by omega) pP (fun p hp=>by
    obtain ⟨⟨k1,k2,k3,k4⟩,k5,k6⟩:=yN.1 trivial;simp only at hp ⊢;rcases List.mem_append.1 hp with hp|hp
    ·exact ⟨(k6 p hp).1,by rw[HN.o];exact (k6 p hp).2.1⟩
    ·simp only[List.mem_singleton] at hp;subst hp
     exact ⟨UE.1,by rw[HN.o];exact UE.2⟩) ⟨by
     have:=(yN.1 trivial).1.2.1;have h2:=HN.o;show kept.length≤1000000;omega,by
     have h2:=rZ.o;have h3:=yV.o;show (cache++[(pos,s)]).length≤1000000;rw[List.length_append];simp;omega,by
     have h2:=Kc.o;have h3:=vn.o;show keep.length≤1000000;omega⟩)
   unfold ew at En;simp only at En;go_upto_region 13 with fail;go_wp2_with (go_at_call 136;(refine En.o.mono ?_);(rintro e w8 ⟨v1,v2,v3,rfl,ho,hb⟩);(obtain ⟨p8,n8,c8,e1⟩:=iI ho.kept);(obtain ⟨q8,m8,d8,e2⟩:=iI ho.cache);(obtain ⟨r8,l8,e8,e4⟩:=iI ho.keep);(subst e1;subst e2;subst e4);(have BZ:=aa ho);(have gI:=aa (fw.o.trans (hb.mono (by omega))));(have Ks:=aa (Ev.o.gS hb (by omega)));(clear hb ho);obtain ⟨z0,z1,z2,z3,z4⟩:=Ks.o.five;obtain ⟨f0,f1,f2,f3,f4⟩:=Ks.o.gJ);have tK:=aa (Ks.mP (.slice p8 n8 c8) (.slice q8 m8 d8) (.int .i64 (-1)) (.slice r8 l8 e8) (.bool true));obtain ⟨g0,g1,g2,g3,g4⟩:=tK.five;refine au (v:=.tuple #[.agg #[.slice p8 n8 c8,.slice q8 m8 d8,.int .i64 (-1),.slice r8 l8 e8,.bool true],.int .i64 90]) ⟨_,_,_,by rw[HE.o];rfl,by rw[HE.o];exact cX.mono ((((((BZ).bc (by omega)).bc (by omega)).bc (by omega)).bc (by omega)).bc (by omega)) (by omega),cR gI (b:=w.heap.size+1) (by omega) _ _ _ _ _⟩ ?_;simp[results,results83,go_sem,g0,g1,g2,g3,g4]
  case neg=>
   have hfm : -1≤ah:=(yN.1 trivial).1.2.2.2;have VY:=rH.o;rw[if_neg hf0] at VY;have Ks:=aa VY;clear VY;by_cases hfp:0<ah
   case pos=>
    have HE:=aa (show r=(⟨kept,cache++[(pos,s)],ah-1,keep,false⟩,0) by rw[← Ks.o,if_pos hfp]);have tt1:decide (0<ah)=true:=decide_eq_true hfp;have HFB:=aa fJ.ah;have HFP:=aa hfp;have asr:ah≤9223372036854775807:=(show -9223372036854775808≤ah∧ah≤9223372036854775807 from HFB).2;have q2f:=HQ7.free 2;clear hf0 hfm;go_upto_region 12 with fail;obtain ⟨W8,lK⟩:=aG (W7.setCell ⟨w3.heap.size,2,none⟩ (.int .i64 (ah-1)));have HQ8:=aa (show aK W8 w3.heap.size [.slice p3 N c3,.slice (some ⟨g6,0,none⟩) (M+1) EK,.int .i64 (ah-1),.slice r3 L e3,.bool false] by rw[← lK];exact HQ7.set 2 _);have akP:=aa (show aK W8 (w.heap.size+1) [.slice none 0 0,.slice none 0 0,.int .i64 0,.slice none 0 0,.bool false] by rw[← lK];exact Ev.far (by omega) _ _);have gI:=aa (show Bw w W8 by rw[← lK];exact fw.setCell (p:=⟨w3.heap.size,2,none⟩) (by show w.heap.size≤w3.heap.size;omega) _);have BZ:=aa (show cX W8 (w.heap.size+2) ⟨kept,cache++[(pos,s)],ah-1,keep,false⟩ (.slice p3 N c3) (.slice (some ⟨g6,0,none⟩) (M+1) EK) (.slice r3 L e3) by
     rw[← lK];refine ⟨dD pP.kept (fun g hg=>Hi g hg),dD pP.cache (fun g hg=>by
      have:g=g6:=(by simpa [Value.ownBlock] using hg.symm);rw[this];exact HG6),dD pP.keep (fun g hg=>HGP g hg),⟨pP.bd.kept,pP.bd.cache,show aQ (ah-1) from by have h:=HFB.o;have h2:=HFP.o;have h3 : -9223372036854775808≤ah∧ah≤9223372036854775807:=h;show -9223372036854775808≤ah-1∧ah-1≤9223372036854775807;exact ⟨by omega,by omega⟩⟩⟩)
    try rw[lK]
    clear lK y0 y1 y2 y3 y4 q2f;obtain ⟨y0,y1,y2,y3,y4⟩:=HQ8.five;have Hl:=akP;obtain ⟨z0,z1,z2,z3,z4⟩:=Hl.five;obtain ⟨f0,f1,f2,f3,f4⟩:=Hl.gJ;go_wp2_with fail;have tK:=aa (Hl.mP (.slice p3 N c3) (.slice (some ⟨g6,0,none⟩) (M+1) EK) (.int .i64 (ah-1)) (.slice r3 L e3) (.bool false));obtain ⟨g0,g1,g2,g3,g4⟩:=tK.five;refine au (v:=.tuple #[.agg #[.slice p3 N c3,.slice (some ⟨g6,0,none⟩) (M+1) EK,.int .i64 (ah-1),.slice r3 L e3,.bool false],.int .i64 0]) ⟨_,_,_,by rw[HE.o];rfl,by rw[HE.o];exact cX.mono ((((((BZ).bc (by omega)).bc (by omega)).bc (by omega)).bc (by omega)).bc (by omega)) (by omega),cR gI (b:=w.heap.size+1) (by omega) _ _ _ _ _⟩ ?_;simp[results,results83,go_sem,g0,g1,g2,g3,g4]
   case neg=>have hfe:ah = -1:=(by omega);subst hfe;have HE:=aa (show r=(⟨kept,cache++[(pos,s)],-1,keep,false⟩,0) by rw[← Ks.o,if_neg hfp]);clear hf0 hfp hfm;obtain ⟨z0,z1,z2,z3,z4⟩:=Ev.five;obtain ⟨f0,f1,f2,f3,f4⟩:=Ev.gJ;go_wp2_with fail;have tK:=aa (Ev.mP (.slice p3 N c3) (.slice (some ⟨g6,0,none⟩) (M+1) EK) (.int .i64 (-1)) (.slice r3 L e3) (.bool false));obtain ⟨g0,g1,g2,g3,g4⟩:=tK.five;refine au (v:=.tuple #[.agg #[.slice p3 N c3,.slice (some ⟨g6,0,none⟩) (M+1) EK,.int .i64 (-1),.slice r3 L e3,.bool false],.int .i64 0]) ⟨_,_,_,by rw[HE.o];rfl,by rw[HE.o];exact cX.mono ((((((pP).bc (by omega)).bc (by omega)).bc (by omega)).bc (by omega)).bc (by omega)) (by omega),cR fw (b:=w.heap.size+1) (by omega) _ _ _ _ _⟩ ?_;simp[results,results83,go_sem,g0,g1,g2,g3,g4]
end Go.Proofs.YtbigkioechkngaaGreat
