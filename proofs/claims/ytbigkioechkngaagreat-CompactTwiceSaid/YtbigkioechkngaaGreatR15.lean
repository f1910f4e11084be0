/- The proof, part 16. -/
import Derived.Test.YtbigkioechkngaaGreatR14
import Derived.Test.YtbigkioechkngaaGreatR11
set_option maxRecDepth 100000
set_option maxHeartbeats 8000000
namespace Go.Proofs.YtbigkioechkngaaGreat
open Go.RowKit Tryz
variable {a:Int}{c:List (List aj)}{l t:List aj}{rs:List vT}{B j k n:Nat}{v:Value}{w:World}{u:aj}
def VP (F:Nat→Prop) (w:World) (p:cm) (e:Ending) (w':World):Prop:=∃v,e=.returned (eY p v)∧br (mask F w') p v∧Bw w w'
theorem xP (p:cm) (v:PV) (id size:Int) (l:List ay) (vl:Value) (w:World) (F:Nat→Prop) (hF:∀q,w.heap.size≤q→F q) (h:br (mask F w) p v) (hl:dW w vl l) (hlen:l.length≤2000) (iL:FQ l) (ls:bM p.aw) (hi:aQ id) (hs:aQ size):Calls prog 109 #[eY p v,.int .i64 id,.int .i64 size,vl] w (fun e w'=>∃t,Grown l t∧VP F w {p with aw:=fe p.aw ⟨id,size,t⟩} e w'):=by
 have HOF:=aa (fun W (hb:Bw w W)=>VO l vl W (hl.keep (af hb)) (by omega) iL);have HWT:=aa (fun (t:ag) (a b c:Value) (W:World) (hb:Bw w W) (hg:Grown l t) (hn:bn (mask (fun q=>F q∧¬q=w.heap.size∧¬q=w.heap.size+1) W) t a b c)=>Kn p.aw ⟨id,size,t⟩ v.v (.agg #[.int .i64 id,.int .i64 size,a,b,c]) W (fun q=>F q∧¬q=w.heap.size∧¬q=w.heap.size+1) (h.aw.keep (fun a u hu=>by
  obtain ⟨h1,h2⟩:=aq.1 hu;have:=World.block_lt_of_cell? _ _ h2;exact aq.2 ⟨⟨h1,by omega,by omega⟩,ae hb h2⟩)) ⟨a,b,c,rfl,hi,hs,hn⟩ ls (by
  show (aA t).length≤2000;rw[hg.1];exact hlen))
 have HP:=aa h;have xH:=aa hF;have hl2:=hl;obtain ⟨pl,cl,rfl,_⟩:=hl2;obtain ⟨pk,nk,ck,pc,nc,cc,pp,np,cp,pv,nv,cv,pt,nt,ct,rfl⟩:=h.sl;clear h hl hlen iL ls hi hs hF;obtain ⟨⟨kept,cache,ah,keep,dead⟩,met,gen,aF,aw,tabs⟩:=p;unfold eY;simp only at HWT ⊢;obtain ⟨W1,hW1⟩:=aG ((w.alloc (.cells #[.slice pk nk ck,.slice pc nc cc,.int .i64 ah,.slice pp np cp,.bool dead,.int .i64 met,.int .i64 gen,.int .i64 aF,.slice pv nv cv,.slice pt nt ct] 30)).alloc (.cells #[.slice none 0 0,.slice none 0 0,.int .i64 0,.slice none 0 0,.bool false,.int .i64 0,.int .i64 0,.int .i64 0,.slice none 0 0,.slice none 0 0] 30));have ee:=aa hW1;have aU:=aa (yH w [.slice pk nk ck,.slice pc nc cc,.int .i64 ah,.slice pp np cp,.bool dead,.int .i64 met,.int .i64 gen,.int .i64 aF,.slice pv nv cv,.slice pt nt ct] [.slice none 0 0,.slice none 0 0,.int .i64 0,.slice none 0 0,.bool false,.int .i64 0,.int .i64 0,.int .i64 0,.slice none 0 0,.slice none 0 0] 30 30);rw[hW1] at aU;clear hW1;go_enter func109,ntmps109;go_upto_region 1 with fail;rw[ee.o];clear ee;have VQ:=aa aU.1.drew;have HZD:=aa aU.2.1.drew;have fJ:=aa aU.2.2.drew;have c8:=VQ.cell (j:=8) rfl;go_region_with
  (first|((with_reducible refine (HOF.o _ fJ.o).mono ?_);(rintro e w2 ⟨t,ta,tb,tc,rfl,hg,hn,hb⟩);(obtain ⟨qa,na,ka,qb,nb,kb,qc,Ko,kc,rfl,rfl,rfl⟩:=aZ hn);(have HG:=aa hg);(have HN:=aa hn);(have bS:=bh fJ hb);(have dV:=aa (VQ.o.below hb));(have xN:=aa (HZD.o.below hb));(have hz2:=HZD.o.lt);(have HZL:=aa hz2);(have d8:=dV.o.cell (j:=8) rfl);(clear hg hn hb hz2))|((with_reducible refine (HWT.o t _ _ _ _ bS.o HG.o ?_).mono ?_);(exact HN.o.keep (bF fun a u hf hu=>⟨⟨xH.o _ (Nat.le_trans fJ.o.size hf.1),by have:=hf.1;have:=HZL.o;omega,by have:=hf.1;have:=HZL.o;omega⟩,hu⟩));(rintro e w3 ⟨v3,rfl,ho,hb⟩);(obtain ⟨p3,c3,rfl,_⟩:=ho.aw);(have qi:=aa (ho.at (fun q hq=>⟨xH.o _ (Nat.le_trans bS.o.size hq),by have:=xN.o.lt;omega,by have:=xN.o.lt;omega⟩)));(have dF:=bh bS hb);(have kD:=aa (dV.o.below hb));(have sq:=aa (xN.o.below hb));(have e8:=kD.o.cell (j:=8) rfl);(have e8f:=kD.o.free 8);(clear hb ho)))
 all_goals
  obtain ⟨W4,pT⟩:=aG (w3.setCell ⟨w.heap.size,8,none⟩ (.slice p3 (fe aw ⟨id,size,t⟩).length c3));have jK:=aa (show aK W4 w.heap.size [.slice pk nk ck,.slice pc nc cc,.int .i64 ah,.slice pp np cp,.bool dead,.int .i64 met,.int .i64 gen,.int .i64 aF,.slice p3 (fe aw ⟨id,size,t⟩).length c3,.slice pt nt ct] by rw[← pT];exact kD.set 8 _);have pS:=aa (show aK W4 (w.heap.size+1) [.slice none 0 0,.slice none 0 0,.int .i64 0,.slice none 0 0,.bool false,.int .i64 0,.int .i64 0,.int .i64 0,.slice none 0 0,.slice none 0 0] by rw[← pT];exact sq.far (by omega) _ _);have fW:=aa (show Bw w W4 by rw[← pT];exact dF.setCell (p:=⟨w.heap.size,8,none⟩) aT _);have Jv:=aa (show br (mask (fun q=>F q∧¬q=w.heap.size∧¬q=w.heap.size+1) W4) ⟨⟨kept,cache,ah,keep,dead⟩,met,gen,aF,fe aw ⟨id,size,t⟩,tabs⟩ ⟨.slice pk nk ck,.slice pc nc cc,.slice pp np cp,.slice p3 (fe aw ⟨id,size,t⟩).length c3,.slice pt nt ct⟩ by
   rw[← pT];have h4:=HP.keep (w':=mask (fun q=>F q∧¬q=w.heap.size∧¬q=w.heap.size+1) w3) (fun a u hu=>by
    obtain ⟨h1,h2⟩:=aq.1 hu;have:=World.block_lt_of_cell? _ _ h2;exact aq.2 ⟨⟨h1,by omega,by omega⟩,ae dF h2⟩)
   exact br.keep ⟨h4.disk,qi,h4.tabs,h4.bm,h4.bg,h4.ba⟩ (aM (fun h=>h.2.1 rfl)))
  rw[pT];clear pT c8 d8 e8 e8f;obtain ⟨a0,a1,a2,a3,a4,a5,a6,a7,a8,a9⟩:=jK.ten;obtain ⟨z0,z1,z2,z3,z4,z5,z6,z7,z8,z9⟩:=pS.ten;obtain ⟨f0,f1,f2,f3,f4,f5,f6,f7,f8,f9⟩:=pS.eP;go_wp2_with fail;have tH:=aa (pS.cQ (.slice pk nk ck) (.slice pc nc cc) (.int .i64 ah) (.slice pp np cp) (.bool dead) (.int .i64 met) (.int .i64 gen) (.int .i64 aF) (.slice p3 (fe aw ⟨id,size,t⟩).length c3) (.slice pt nt ct));have XK:=aa (Jv.keep (gF (cS (b:=w.heap.size+1) (fun h=>h.2.2 rfl) (.slice pk nk ck) (.slice pc nc cc) (.int .i64 ah) (.slice pp np cp) (.bool dead) (.int .i64 met) (.int .i64 gen) (.int .i64 aF) (.slice p3 (fe aw ⟨id,size,t⟩).length c3) (.slice pt nt ct)) (aV (G:=F) fun q h=>h.1)));have gI:=aa (dZ fW (b:=w.heap.size+1) (by omega) (.slice pk nk ck) (.slice pc nc cc) (.int .i64 ah) (.slice pp np cp) (.bool dead) (.int .i64 met) (.int .i64 gen) (.int .i64 aF) (.slice p3 (fe aw ⟨id,size,t⟩).length c3) (.slice pt nt ct));have BU:=tH.o;unfold cQ at XK gI BU;obtain ⟨g0,g1,g2,g3,g4,g5,g6,g7,g8,g9⟩:=BU.ten;refine au (v:=.agg #[.slice pk nk ck,.slice pc nc cc,.int .i64 ah,.slice pp np cp,.bool dead,.int .i64 met,.int .i64 gen,.int .i64 aF,.slice p3 (fe aw ⟨id,size,t⟩).length c3,.slice pt nt ct]) ⟨t,HG,⟨.slice pk nk ck,.slice pc nc cc,.slice pp np cp,.slice p3 (fe aw ⟨id,size,t⟩).length c3,.slice pt nt ct⟩,rfl,XK,gI⟩ ?_;simp[results,results109,go_sem,g0,g1,g2,g3,g4,g5,g6,g7,g8,g9]
theorem uR {p:Option Addr} {c:Nat} (h:dA w (.slice p n c) l):n=l.length∧iK w p n 4 (aI l):=by
 obtain ⟨p',c',h1,h2,h3,h4⟩:=h;injection h1 with e1 e2 e3;subst e1;subst e2;refine ⟨rfl,mW l,fun hp=>?_,jg l,fun ad had j u hj=>?_⟩
 ·cases l with
  |nil=>rfl
  |cons x l=>obtain ⟨g,o,e,_⟩:=h4 0 x rfl;rw[hp] at e;cases e
 ·have hlt:=(List.getElem?_eq_some_iff.1 hj).1
  rw[mW] at hlt;have hi:j/4<l.length:=by omega
  obtain ⟨g,o,e,k0,k1,k2,k3⟩:=h4 (j/4) _ (List.getElem?_eq_getElem hi);rw[had] at e;injection e with e;subst e;rw[nA];have hr:j%4<4:=Nat.mod_lt _ (by omega);have hx:(cM l[j/4])[j%4]?=some ((cM l[j/4])[j%4]'(by unfold cM;exact hr)):=List.getElem?_eq_getElem _;have hg:=ir l (j/4) _ (j%4) _ (List.getElem?_eq_getElem hi) hx;rw[Nat.div_add_mod' j 4,hj] at hg;injection hg with hg;rw[hg];have ej:o+j=o+j/4*4+j%4:=by omega
  rw[ej];rcases (show j%4=0∨j%4=1∨j%4=2∨j%4=3 by omega) with h|h|h|h
  ·simp only[h];exact k0
  ·simp only[h];exact k1
  ·simp only[h];exact k2
  ·simp only[h];exact k3
theorem ID (l:List aj) (n:Int) (hn:aQ n) (v1:Value) (w:World) (h1:dA w v1 l):Calls prog 76 #[v1,.int .i64 n] w fun e w'=>∃v,e=.returned (.tuple #[v,.int .i64 (gQ l n).2.1,.bool (gQ l n).2.2])∧w'.ownsRow w.heap.size 52 4 v (gQ l n).1.length (aI (gQ l n).1)∧Bw w w':=by
 have eJ:=aa (nZ l v1 w h1);have Yq:=aa (fun W (hb:Bw w W)=>OL l v1 W (h1.keep (af hb)));have H1:=aa (fun W (hb:Bw w W)=>h1.keep (af hb));obtain ⟨p,cp,rfl,a1,a2,ha⟩:=h1;have HA:=aa ha;obtain ⟨N,hN⟩:=aG l.length;rw[hN] at a1 eJ Yq H1;rw[hN];have hlc:=fG (n:=N) a2;have HN:=aa hN;clear ha hN a1 a2;obtain ⟨m,hm⟩:=aG (dE l);have HM:=aa hm;rw[hm] at eJ;clear hm;obtain ⟨r,hr⟩:=aG (gQ l n);have HR:=aa hr;rw[hr];unfold gQ at HR;clear hr;have HI:=aa hn;unfold aQ at hn;go_enter func76,ntmps76;cases m with
 |false=>have HE:=aa (show r=([],0,false) by rw[← HR.o,if_neg (fun h=>by rw[HM.o] at h;exact absurd h.1 (by simp))]);go_wp2_with (go_at_call 119;(refine eJ.o.mono ?_);rintro e w5 ⟨rfl,aR⟩;have bp:=aa aR;clear aR);refine au (v:=.tuple #[.slice none 0 0,.int .i64 0,.bool false]) ⟨.slice none 0 0,by rw[HE.o],by rw[HE.o];exact ⟨rfl,.inl ⟨rfl,rfl⟩⟩,bp⟩ ?_;simp[results,results76,go_sem]
 |true=>
  by_cases kN:n<1∨8<n
  case pos=>
   have HE:=aa (show r=([],0,false) by rw[← HR.o,if_neg (by omega)]);have hc:n<1∨(¬n<1∧8<n):=by omega
   clear kN;rcases hc with c1|⟨c1,c2⟩
   ·have d1:decide (n<1)=true:=by simpa using c1
    go_wp2_with (go_at_call 119;(refine eJ.o.mono ?_);rintro e w5 ⟨rfl,aR⟩;have bp:=aa aR;clear aR);refine au (v:=.tuple #[.slice none 0 0,.int .i64 0,.bool false]) ⟨.slice none 0 0,by rw[HE.o],by rw[HE.o];exact ⟨rfl,.inl ⟨rfl,rfl⟩⟩,bp⟩ ?_;simp[results,results76,go_sem]
   ·have d1:decide (n<1)=false:=by simpa using c1
    have d2:decide (8<n)=true:=(by simpa using c2);go_wp2_with (go_at_call 119;(refine eJ.o.mono ?_);rintro e w5 ⟨rfl,aR⟩;have bp:=aa aR;clear aR);refine au (v:=.tuple #[.slice none 0 0,.int .i64 0,.bool false]) ⟨.slice none 0 0,by rw[HE.o],by rw[HE.o];exact ⟨rfl,.inl ⟨rfl,rfl⟩⟩,bp⟩ ?_;simp[results,results76,go_sem]
  have c1:¬n<1:=by omega
  have c2:¬8<n:=by omega
  have d1:decide (n<1)=false:=by simpa using c1
  have d2:decide (8<n)=false:=by simpa using c2
  clear kN;have HUT:=aa (show km l=gD l by unfold km;rw[if_pos HM.o]);obtain ⟨a,ha⟩:=aG (gy (gD l) n);have jO:=aa (show (if a<0 then ([],0,false) else (jn a n l,a,true))=r by
   have h:=HR.o;rw[if_pos ⟨HM,by omega,by omega⟩,ha] at h;exact h)
  have HAF:=aa ha;clear ha;go_upto_region 4 with (first|(go_at_call 119;(with_reducible refine eJ.o.mono ?_);rintro e w5 ⟨rfl,aR⟩;have bp:=aa aR;clear aR)|(go_at_call 126;(with_reducible refine (Yq.o _ bp.o).mono ?_);rintro e w6 ⟨vu,rfl,hru,cV⟩;have cU:=bh bp cV;have J8:=aa (by have h:=K1 (km l) n vu w6 (eD rfl hru) (by rw[HUT.o,om];omega);rw[HUT.o,HAF.o] at h;exact h);clear cV hru)|(go_at_call 125;(with_reducible refine J8.o.mono ?_);rintro e w7 ⟨rfl,dL⟩;have fw:=bh cU dL;clear dL));by_cases hneg:a<0
  case pos=>
   have HE:=aa (show r=([],0,false) by rw[← jO.o,if_pos hneg]);have d3:decide (a<0)=true:=by simpa using hneg
   go_wp2_with fail;refine au (v:=.tuple #[.slice none 0 0,.int .i64 0,.bool false]) ⟨.slice none 0 0,by rw[HE.o],by rw[HE.o];exact ⟨rfl,.inl ⟨rfl,rfl⟩⟩,fw⟩ ?_;simp[results,results76,go_sem]
  have HE:=aa (show r=(jn a n l,a,true) by rw[← jO.o,if_neg hneg]);have Sw:=aa (Db HM HAF (by omega));have d3:decide (a<0)=false:=by simpa using hneg
  have yF:=aa (show N≤16 by rw[← HN.o];exact gP HM);go_wp2_with fail;clear c1 c2 d1 d2 d3 hneg;go_loopw [8] (fun i wr=>∃k:Nat,k≤N∧i=.int .i64 k∧(∀(j:Nat) u,j<k→l[j]?=some u→u.1<a)∧wr=w7) (fun i _=>N-(intOf i).toNat)
  case atStart=>exact ⟨0,dO,rfl,fun j _ hj=>by omega,rfl⟩
  case round=>
   obtain ⟨k,hk,rfl,hall,rfl⟩:=hrel;have ed:=aa hall;clear hall;by_cases hgo:k<N∧∃u,l[k]?=some u∧u.1<a
   case pos=>
    obtain ⟨hlt,⟨x,y,z,d⟩,hs,BA⟩:=hgo;simp only at BA;have fN:(k:Int)<(N:Int):=by omega
    have VV:decide (k<N)=true:=decide_eq_true hlt;obtain ⟨g,o,rfl,x1⟩:=HA.o k _ hs;obtain ⟨r0,_,_,_⟩:=x1.keep (af fw);simp only at r0;have hd:decide (x<a)=true:=decide_eq_true BA;have HS:=aa hs;have ZU:=aa BA;clear hs x1 BA;go_wp2_with fail;go_roundw
    case rel=>
     refine ⟨k+1,by omega,by go_num,fun j u hj hu=>?_,by first|rfl|trivial⟩;by_cases e:j=k
     ·subst e;rw[HS.o] at hu;cases hu;exact ZU.o
     ·exact ed j u (by omega) hu
    case measure=>simp[intOf];omega
   case neg=>
    have Ob:=aa (show jn a n l=l.take k++[(a,n,1,false)]++l.drop k from AR Sw.1 ed (fun u hu=>by
     have hlt:k<N:=by rw[← HN.o];exact (List.getElem?_eq_some_iff.1 hu).1
     exact Classical.byContradiction fun h=>hgo ⟨hlt,u,hu,by omega⟩) (by rw[HN.o];exact hk))
    have tk:=aa (fun W (hb:Bw w W)=>kF p N cp (aI l) W (uR (H1 W hb)).2 (by have:=yF.o;omega));by_cases hlt:k<N
    case pos=>
     have fN:(k:Int)<(N:Int):=(by omega);have VV:decide (k<N)=true:=decide_eq_true hlt;obtain ⟨⟨x,y,z,d⟩,hs⟩:∃u,l[k]?=some u:=⟨_,List.getElem?_eq_getElem (by rw[HN.o];exact hlt)⟩
     obtain ⟨g,o,rfl,x1⟩:=HA.o k _ hs;obtain ⟨r0,_,_,_⟩:=x1.keep (af fw);simp only at r0;have hd:decide (x<a)=false:=decide_eq_false (fun h=>hgo ⟨hlt,_,hs,h⟩);clear hs x1 hgo;go_upto_region 9 with fail;go_wp2_with (first|(go_at_call 78;(with_reducible refine (tk.o _ fw.o).mono ?_);(rintro e w8 ⟨v8,rfl,ho,hb⟩);(obtain ⟨p8,c8,rfl⟩:=ez ho);(have Sd:=aa (qN wr.heap.size N k w8.heap.size _ (aI l) (cM (a,n,1,false)) (w8.alloc (.cells #[.int .i64 a,.int .i64 n,.int .i64 1,.bool false] 52)) (ho.alloc _) (World.alloc_heap_new w8 _) (fun e=>by have:=(ho.lt _ e).2;omega) rfl (by intro u hu;unfold cM at hu;simp only[List.mem_cons,List.not_mem_nil,or_false] at hu;rcases hu with rfl|rfl|rfl|rfl <;> rfl) (jg l) (by have:=yF.o;omega) (by have:=hb.size;simp;omega) (by omega)));(have Q6:=aa (fun g hg=>(ho.lt g hg).1));(have ke:=aa (show Bw w (w8.alloc (.cells #[.int .i64 a,.int .i64 n,.int .i64 1,.bool false] 52)) from ak (ak fw.o hb) (ar)));(clear hb ho))|(go_at_call 127;(with_reducible refine Sd.o.mono ?_);(rintro e GH ⟨v10,rfl,ho,hg⟩);(obtain ⟨X5,c10,rfl⟩:=ez ho);(have Hk:=aa ho);(have tD:=aa (show Bw w GH from ke.o.grown hg ke.o.size (fun b hb=>Nat.le_trans fw.o.size (Q6.o b hb))));(clear ho hg)));refine au (v:=.tuple #[.slice X5 (N+1) c10,.int .i64 a,.bool true]) ⟨.slice X5 (N+1) c10,by rw[HE.o],?_,tD⟩ ?_
     ·rw[HE.o]
      simp only;have h:=Hk.o;rw[lC,lD,← xV (a,n,1,false),kP,kP] at h;rw[Ob.o];have hl:(l.take k++[(a,n,1,false)]++l.drop k).length=N+1:=by have:=HN.o;simp only[List.length_append,List.length_take,List.length_drop,List.length_cons,List.length_nil];omega
      rw[hl];exact bz fw.size h
     simp[results,results76,go_sem]
    case neg=>
     obtain rfl:k=N:=by omega
     have VV:decide (k<k)=false:=decide_eq_false (by omega);have ar2:decide ((k:Int)<(k:Int))=false:=decide_eq_false (by omega);clear hgo;go_upto_region 9 with fail;go_wp2_with (first|(go_at_call 78;(with_reducible refine (tk.o _ fw.o).mono ?_);(rintro e w8 ⟨v8,rfl,ho,hb⟩);(obtain ⟨p8,c8,rfl⟩:=ez ho);(have Sd:=aa (qN wr.heap.size k k w8.heap.size _ (aI l) (cM (a,n,1,false)) (w8.alloc (.cells #[.int .i64 a,.int .i64 n,.int .i64 1,.bool false] 52)) (ho.alloc _) (World.alloc_heap_new w8 _) (fun e=>by have:=(ho.lt _ e).2;omega) rfl (by intro u hu;unfold cM at hu;simp only[List.mem_cons,List.not_mem_nil,or_false] at hu;rcases hu with rfl|rfl|rfl|rfl <;> rfl) (jg l) (by have:=yF.o;omega) (by have:=hb.size;simp;omega) (by omega)));(have Q6:=aa (fun g hg=>(ho.lt g hg).1));(have ke:=aa (show Bw w (w8.alloc (.cells #[.int .i64 a,.int .i64 n,.int .i64 1,.bool false] 52)) from ak (ak fw.o hb) (ar)));(clear hb ho))|(go_at_call 127;(with_reducible refine Sd.o.mono ?_);(rintro e GH ⟨v10,rfl,ho,hg⟩);(obtain ⟨X5,c10,rfl⟩:=ez ho);(have Hk:=aa ho);(have tD:=aa (show Bw w GH from ke.o.grown hg ke.o.size (fun b hb=>Nat.le_trans fw.o.size (Q6.o b hb))));(clear ho hg)));refine au (v:=.tuple #[.slice X5 (k+1) c10,.int .i64 a,.bool true]) ⟨.slice X5 (k+1) c10,by rw[HE.o],?_,tD⟩ ?_
     ·rw[HE.o]
      simp only;have h:=Hk.o;rw[lC,lD,← xV (a,n,1,false),kP,kP] at h;rw[Ob.o];have hl:(l.take k++[(a,n,1,false)]++l.drop k).length=k+1:=by have:=HN.o;simp only[List.length_append,List.length_take,List.length_drop,List.length_cons,List.length_nil];omega
      rw[hl];exact bz fw.size h
     simp[results,results76,go_sem]
theorem uS (h:l[j]?=some u) (c:Int):(aI l).set (j*4+2) (.int .i64 c)=aI (l.set j (u.1,u.2.1,c,u.2.2.2)):=by
 have hall:nB 4 (l.map cM):=fun q hq=>by obtain ⟨y,_,rfl⟩:=List.mem_map.1 hq;rfl
 have h1:(l.map cM)[j]?=some (cM u):=by rw[List.getElem?_map,h];rfl
 have e1:=pU (r:=2) (.int .i64 c) hall h1 (by decide);unfold aI;rw[e1,List.map_set];rfl
theorem OY {α:Type} {l:List α} {u:α} (h:l[j]?=some u) (x:α):l.set j x=l.take j++[x]++l.drop (j+1):=by have hlt:=(List.getElem?_eq_some_iff.1 h).1;rw[List.set_eq_take_append_cons_drop,if_pos hlt,List.append_assoc];rfl
theorem K5 (l:List aj) (a:Int) (v1:Value) (w:World) (h1:dA w v1 l):Calls prog 139 #[v1,.int .i64 a] w fun e w'=>∃v,e=.returned (.tuple #[v,.bool (jD l a (-1)).2])∧w'.ownsRow w.heap.size 52 4 v (jD l a (-1)).1.length (aI (jD l a (-1)).1)∧Bw w w':=by
 have eJ:=aa (nZ l v1 w h1);have KH:=aa (fun W (hb:Bw w W)=>Iy l a v1 W (h1.keep (af hb)));have H1:=aa (fun W (hb:Bw w W)=>h1.keep (af hb));obtain ⟨p,cp,rfl,a1,a2,ha⟩:=h1;have HA:=aa ha;obtain ⟨N,hN⟩:=aG l.length;rw[hN] at a1 eJ KH H1;rw[hN];have hlc:=fG (n:=N) a2;have HN:=aa hN;clear ha hN a1 a2;obtain ⟨m,hm⟩:=aG (dE l);have HM:=aa hm;rw[hm] at eJ;clear hm;obtain ⟨r,hr⟩:=aG (jD l a (-1));have HR:=aa hr;rw[hr];unfold jD at HR;clear hr;go_enter func139,ntmps139;cases m with
 |false=>have HE:=aa (show r=([],false) by rw[← HR.o,if_neg (fun h=>by rw[HM.o] at h;exact absurd h.1 (by simp))]);go_wp2_with (go_at_call 119;(refine eJ.o.mono ?_);rintro e w5 ⟨rfl,aR⟩;have bp:=aa aR;clear aR);refine au (v:=.tuple #[.slice none 0 0,.bool false]) ⟨.slice none 0 0,by rw[HE.o],by rw[HE.o];exact ⟨rfl,.inl ⟨rfl,rfl⟩⟩,bp⟩ ?_;simp[results,results139,go_sem]
 |true=>
  rcases tM (a:=a) l 0 with ⟨hi,hc,_⟩|⟨j,⟨ua,ub,uc,ud⟩,hi,hs,hua,hc,afl⟩
  ·have HE:=aa (show r=([],false) by rw[← HR.o,if_neg (fun h=>h.2.1 hc)])
   rw[hi] at KH;clear hi hc;go_wp2_with (first|(go_at_call 119;(with_reducible refine eJ.o.mono ?_);rintro e w5 ⟨rfl,aR⟩;have bp:=aa aR;clear aR)|(go_at_call 171;(with_reducible refine (KH.o _ bp.o).mono ?_);rintro e w6 ⟨rfl,cV⟩;have cU:=bh bp cV;clear cV));refine au (v:=.tuple #[.slice none 0 0,.bool false]) ⟨.slice none 0 0,by rw[HE.o],by rw[HE.o];exact ⟨rfl,.inl ⟨rfl,rfl⟩⟩,cU⟩ ?_;simp[results,results139,go_sem]
  ·rw[Nat.zero_add] at hi
   rw[hi] at KH;simp only at hua hc;subst hua;have hjN:j<N:=by rw[← HN.o];exact (List.getElem?_eq_some_iff.1 hs).1
   have Gg:(j:Int)<(N:Int):=(by omega);have Rz:¬(j:Int)<0:=by omega
   have hj1:decide ((j:Int)<0)=false:=decide_eq_false Rz;obtain ⟨g,o,rfl,x1⟩:=HA.o j _ hs;simp only at x1;have aU:=aa x1;have BG:=aa (cj.1 (iw HM (List.mem_of_getElem? hs)));by_cases hz:uc<1
   case pos=>
    have HE:=aa (show r=([],false) by
     rw[← HR.o,if_neg (fun h=>h.2.1 (by obtain ⟨_,_,_,_,h5,h6,_⟩:=BG.o;(try simp only at h5 h6);rw[hc];omega))])
    have hd:decide (uc<1)=true:=decide_eq_true hz;clear hi hc hs x1;go_wp2_with (first|(go_at_call 119;(with_reducible refine eJ.o.mono ?_);rintro e w5 ⟨rfl,aR⟩;have bp:=aa aR;clear aR)|(go_at_call 171;(with_reducible refine (KH.o _ bp.o).mono ?_);rintro e w6 ⟨rfl,cV⟩;have cU:=bh bp cV;clear cV;obtain ⟨r0,r1,r2,r3⟩:=aU.o.keep (af cU.o)));refine au (v:=.tuple #[.slice none 0 0,.bool false]) ⟨.slice none 0 0,by rw[HE.o],by rw[HE.o];exact ⟨rfl,.inl ⟨rfl,rfl⟩⟩,cU⟩ ?_;simp[results,results139,go_sem]
   case neg=>
    have hd:decide (uc<1)=false:=decide_eq_false hz;have HUC:=aa (show 1≤uc∧uc≤1000000 by obtain ⟨_,_,_,_,h5,h6,_⟩:=BG.o;(try simp only at h5 h6);omega);have HE:=aa (show r=(pE ua (-1) l,true) by
     rw[← HR.o,if_pos ⟨HM,by rw[hc];omega,by rw[hc];have:=HUC.o;omega⟩])
    have HT:=aa (SS (b := -1) HM hs rfl afl);have HS:=aa hs;have yF:=aa (show N≤16 by rw[← HN.o];exact gP HM);have tk:=aa (fun W (hb:Bw w W)=>kF (some ⟨g,o,none⟩) N cp (aI l) W (uR (H1 W hb)).2 (by have:=yF.o;omega));have ow:=aa (uS hs (uc-1));clear hi hc hs x1 afl;simp only at ow;go_upto_region 7 with (first|(go_at_call 119;(with_reducible refine eJ.o.mono ?_);rintro e w5 ⟨rfl,aR⟩;have bp:=aa aR;clear aR)|(go_at_call 171;(with_reducible refine (KH.o _ bp.o).mono ?_);rintro e w6 ⟨rfl,cV⟩;have cU:=bh bp cV;clear cV;obtain ⟨r0,r1,r2,r3⟩:=aU.o.keep (af cU.o))|(go_at_call 78;(with_reducible refine (tk.o _ cU.o).mono ?_);(rintro e w8 ⟨v8,rfl,ho,hb⟩);(obtain ⟨p8,c8,rfl⟩:=ez ho);(have BZ:=aa ho);(have gI:=bh cU hb);(clear hb ho)));rcases aJ BZ.o with ⟨_,e0,_⟩|⟨g8,ZV,hv8⟩
    ·omega
    injection hv8 with e1 _ e3;subst e1;subst e3;have hlen:=mW l;have hc2:=ir l j (ua,ub,uc,ud) 2 (.int .i64 uc) HS rfl;have hc3:=ir l j (ua,ub,uc,ud) 3 (.bool ud) HS rfl;have k2:w8.cell? ⟨g8,j*4+2,none⟩=some (.int .i64 uc):=by obtain ⟨h6,h7⟩:=List.getElem?_eq_some_iff.1 hc2;have:=bG BZ _ h6;rw[h7] at this;exact this
    have k3:w8.cell? ⟨g8,j*4+3,none⟩=some (.bool ud):=by obtain ⟨h6,h7⟩:=List.getElem?_eq_some_iff.1 hc3;have:=bG BZ _ h6;rw[h7] at this;exact this
    have kf:=gj BZ (j*4+2);have HK3:=aa k3;have Vm:=aa (lU BZ (j*4+2) (.int .i64 (uc-1)) (by rw[hlen,HN.o];omega));have hw1:(1:Int)≤uc:=HUC.1;have hw2:uc≤1000000:=HUC.2;clear r0 r1 r2 r3 hlen hc2 hc3 k3 hd;go_upto_region 8 with fail;obtain ⟨W9,AE⟩:=aG (w8.setCell ⟨g8,j*4+2,none⟩ (.int .i64 (uc-1)));have HK9:=aa (show W9.cell? ⟨g8,j*4+2,none⟩=some (.int .i64 (uc-1))∧W9.cell? ⟨g8,j*4+3,none⟩=some (.bool ud) by
     rw[← AE];exact ⟨World.cell?_setCell_same _ _ _ k2,(World.cell?_setCell_other _ _ _ _ (fun e=>by injection e with e1 e2;omega)).trans HK3⟩)
    rw[ow.o,AE] at Vm;have ke:=aa (show Bw w W9 by rw[← AE];exact gI.setCell (p:=⟨g8,j*4+2,none⟩) (Nat.le_trans cU.size (BZ.lt g8 rfl).1) _)
    try rw[AE]
    clear AE k2 kf;obtain ⟨q2,q3⟩:=HK9.o;have zq:=aa (show l.set j (ua,ub,uc-1,ud)=l.take j++[(ua,ub,uc-1,ud)]++l.drop (j+1) from OY HS _);have afn:=(bl Vm).choose_spec;by_cases hdel:uc-1=0∧ud=false
    case pos=>
     obtain ⟨QR,rfl⟩:=hdel;have kI:=aa (show pE ua (-1) l=l.take j++l.drop (j+1) by
      rw[HT.o,if_neg (by unfold sH uD;rw[if_pos rfl];simp only;rw[decide_eq_false (by omega)];simp),List.append_nil])
     have Qz:(uc-1==0)=true:=(by simpa using QR);have HDL:=aa (A0 w6.heap.size N j g8 c8 _ W9 Vm (jg _) (by have:=yF.o;omega) hjN);have hjw:wrap64 ((j:Int)+1)=(j:Int)+1:=by have:=yF.o;unfold wrap64;omega
     have hjb:(j:Int)+1≤9223372036854775807:=(by omega);clear QR afn hjw;go_wp2_with (go_at_call 172;(refine HDL.o.mono ?_);(rintro e GH ⟨v10,rfl,ho,hg⟩);(obtain ⟨X5,c10,rfl⟩:=ez ho);(have Hk:=aa ho);(have tD:=aa (show Bw w GH from ke.o.grown hg ke.o.size (fun b hb=>Nat.le_trans cU.o.size (by have:=(BZ.o.lt b hb).1;exact this))));(clear ho hg));refine au (v:=.tuple #[.slice X5 (N-1) c10,.bool true]) ⟨.slice X5 (N-1) c10,by rw[HE.o],?_,tD⟩ ?_
     ·rw[HE.o]
      simp only;have h:=Hk.o;rw[lC,lD,kP] at h;have e1:(l.set j (ua,ub,uc-1,false)).take j=l.take j:=by rw[List.take_set_of_le (Nat.le_refl j)]
      have e2:(l.set j (ua,ub,uc-1,false)).drop (j+1)=l.drop (j+1):=(by rw[List.drop_set_of_lt (Nat.lt_succ_self j)]);rw[e1,e2] at h;rw[kI.o];have hl:(l.take j++l.drop (j+1)).length=N-1:=by have:=HN.o;simp only[List.length_append,List.length_take,List.length_drop];omega
      rw[hl];exact bz cU.size h
     simp[results,results139,go_sem]
    case neg=>
     have kI:=aa (show pE ua (-1) l=l.set j (ua,ub,uc-1,ud) by
      rw[zq.o,HT.o,if_pos (by
       unfold sH uD;rw[if_pos rfl];simp only;by_cases h9:0<uc + -1
       ·rw[decide_eq_true h9];rfl
       ·cases ud with
        |true=>simp
        |false=>exact absurd ⟨by omega,rfl⟩ hdel)]
      unfold uD;rw[if_pos rfl];rfl)
     have hl:(l.set j (ua,ub,uc-1,ud)).length=N:=by rw[List.length_set];exact HN.o
     have HL:=aa hl;clear hl afn;by_cases hz0:uc-1=0
     ·have Qz:(uc-1==0)=true:=by simpa using hz0
      obtain rfl:ud=true:=by
       cases ud with
       |true=>rfl
       |false=>exact absurd ⟨hz0,rfl⟩ hdel
      clear hdel hz0;go_wp2_with fail;refine au (v:=.tuple #[.slice (some ⟨g8,0,none⟩) N c8,.bool true]) ⟨.slice (some ⟨g8,0,none⟩) N c8,by rw[HE.o],by rw[HE.o];simp only;rw[kI.o,HL.o];exact bz cU.size Vm,ke⟩ ?_;simp[results,results139,go_sem]
     ·have Qz:(uc-1==0)=false:=by simpa using hz0
      clear hdel hz0;go_wp2_with fail;refine au (v:=.tuple #[.slice (some ⟨g8,0,none⟩) N c8,.bool true]) ⟨.slice (some ⟨g8,0,none⟩) N c8,by rw[HE.o],by rw[HE.o];simp only;rw[kI.o,HL.o];exact bz cU.size Vm,ke⟩ ?_;simp[results,results139,go_sem]
def cJ (a n:Int) (u:aj):aj:=if u.1=a then (u.1,u.2.1,n,u.2.2.2) else u
def pR (a n:Int) (l:List aj) (k:Nat):List aj:=(l.take k).map (cJ a n)++l.drop k
theorem A1 (a n:Int) (l:List aj) (k:Nat):(pR a n l k).length=l.length:=by unfold pR;rw[List.length_append,List.length_map,List.length_take,List.length_drop];omega
theorem A4 (a n:Int) (l:List aj) (k i:Nat):(pR a n l k)[i]?=if i<k then (l[i]?).map (cJ a n) else l[i]?:=by
 unfold pR;by_cases h:i<k
 ·rw[if_pos h]
  by_cases h2:i<l.length
  ·rw[List.getElem?_append_left (by rw[List.length_map,List.length_take];omega),List.getElem?_map,List.getElem?_take,if_pos h]
  ·rw[List.getElem?_eq_none (by rw[List.length_append,List.length_map,List.length_take,List.length_drop];omega),List.getElem?_eq_none (by omega)];rfl
 ·rw[if_neg h]
  by_cases h2:k≤l.length
  ·have e:((l.take k).map (cJ a n)).length=k:=by rw[List.length_map,List.length_take];omega
   rw[List.getElem?_append_right (by rw[e];omega),e,List.getElem?_drop,show k+(i-k)=i by omega]
  ·rw[List.getElem?_eq_none (by rw[List.length_append,List.length_map,List.length_take,List.length_drop];omega),List.getElem?_eq_none (by omega)]
theorem yY {n:Int} (h:l[k]?=some u):(pR a n l k)[k]?=some u:=by rw[A4,if_neg (by omega)];exact h
theorem Dh {n:Int} (h:l[k]?=some u):pR a n l (k+1)=(pR a n l k).set k (cJ a n u):=by
 have hk:=(List.getElem?_eq_some_iff.1 h).1;apply List.ext_getElem?;intro i;rw[A4];by_cases hi:k=i
 ·subst hi
  rw[if_pos (by omega),List.getElem?_set_self (by rw[A1];exact hk),h];rfl
 ·rw[List.getElem?_set_ne hi,A4]
  by_cases h2:i<k
  ·rw[if_pos (by omega),if_pos h2]
  ·rw[if_neg (by omega),if_neg h2]
theorem OZ {n:Int} (h:l[k]?=some u) (hu:¬u.1=a):pR a n l (k+1)=pR a n l k:=by
 rw[Dh h];have e:cJ a n u=u:=by unfold cJ;rw[if_neg hu]
 rw[e];apply List.ext_getElem?;intro i;by_cases hi:k=i
 ·subst hi
  rw[List.getElem?_set_self (by rw[A1];exact (List.getElem?_eq_some_iff.1 h).1),yY h]
 ·rw[List.getElem?_set_ne hi]
theorem EF (l:List aj) (a n:Int) (B g c:Nat) (w:World) (h:w.ownsRow B 52 4 (.slice (some ⟨g,0,none⟩) l.length c) l.length (aI l)) (hl:l.length≤1000):Calls prog 84 #[.slice (some ⟨g,0,none⟩) l.length c,.int .i64 a,.int .i64 n] w fun e w'=>e=.returned (.tuple #[])∧w'.ownsRow B 52 4 (.slice (some ⟨g,0,none⟩) l.length c) l.length (aI (l.map (cJ a n)))∧w.grownBy w' (some g):=by
 have HO:=aa h;obtain ⟨N,hN⟩:=aG l.length;have HN:=aa hN;rw[hN] at hl HO;rw[hN];clear h hN;have hlc:(N:Int)≤9223372036854775807:=by omega
 go_enter func84,ntmps84;go_wp2_with fail;go_loopw [9] (fun i wr=>∃k:Nat,k≤N∧i=.int .i64 k∧wr.ownsRow B 52 4 (.slice (some ⟨g,0,none⟩) N c) N (aI (pR a n l k))∧w.grownBy wr (some g)) (fun i _=>N-(intOf i).toNat)
 case atStart=>exact ⟨0,dO,rfl,HO,World.grownBy.refl _ _⟩
 case round=>
  obtain ⟨k,hk,rfl,hrow,hg⟩:=hrel;have bU:=aa hrow;have HG:=aa hg;clear hrow hg;by_cases hlt:k<N
  case neg=>
   obtain rfl:k=N:=by omega
   have HF:=aa (show pR a n l k=l.map (cJ a n) by
    unfold pR;rw[List.take_of_length_le (by rw[HN.o];exact aT),List.drop_of_length_le (by rw[HN.o];exact aT),List.append_nil])
   go_wp2_with fail;go_end0;exact ⟨rfl,by rw[← HF.o];exact bU,HG⟩
  case pos=>
   have fN:(k:Int)<(N:Int):=(by omega);have MQ:(0:Int)≤(k:Int):=by omega
   obtain ⟨⟨x,y,z,d⟩,hs⟩:∃s,l[k]?=some s:=⟨_,List.getElem?_eq_getElem (by rw[HN.o];exact hlt)⟩
   have hlen:=mW (pR a n l k);rw[A1,HN.o] at hlen;have hc0:=ir _ k (x,y,z,d) 0 (.int .i64 x) (yY (a:=a) (n:=n) hs) rfl;have hc2:=ir _ k (x,y,z,d) 2 (.int .i64 z) (yY (a:=a) (n:=n) hs) rfl;have k0:wr.cell? ⟨g,k*4,none⟩=some (.int .i64 x):=by obtain ⟨h6,h7⟩:=List.getElem?_eq_some_iff.1 hc0;have:=bG bU _ h6;rw[h7] at this;exact this
   have k2:wr.cell? ⟨g,k*4+2,none⟩=some (.int .i64 z):=by obtain ⟨h6,h7⟩:=List.getElem?_eq_some_iff.1 hc2;have:=bG bU _ h6;rw[h7] at this;exact this
   have kf:=gj bU (k*4+2);have EG:=aa (lU bU (k*4+2) (.int .i64 n) (by rw[hlen];omega));have ow:=aa (uS (yY (a:=a) (n:=n) hs) n);have HS:=aa hs;clear hs hc0 hc2 hlen;by_cases BA:x=a
   ·subst BA
    have fX:=aa (show pR x n l (k+1)=(pR x n l k).set k (x,y,n,d) by
     rw[Dh HS.o];unfold cJ;rw[if_pos rfl])
    have tK:=aa (show (wr.setCell ⟨g,k*4+2,none⟩ (.int .i64 n)).ownsRow B 52 4 (.slice (some ⟨g,0,none⟩) N c) N (aI (pR x n l (k+1))) by
     rw[fX.o];have h:=EG.o;rw[ow.o] at h;exact h)
    have YB:=aa (show w.grownBy (wr.setCell ⟨g,k*4+2,none⟩ (.int .i64 n)) (some g) from aW HG (BK _ _ _ _));obtain ⟨W9,AE⟩:=aG (wr.setCell ⟨g,k*4+2,none⟩ (.int .i64 n));rw[AE] at tK YB;have HW9:=aa AE;clear AE;go_upto_region 5 with fail;rw[HW9.o];clear k0 k2 kf HW9;go_wp2_with fail;go_roundw
    case rel=>exact ⟨k+1,by omega,by go_num,tK.o,YB.o⟩
    case measure=>simp[intOf];omega
   ·have hd:(x==a)=false:=by simpa using BA
    have fX:=aa (show pR a n l (k+1)=pR a n l k from OZ HS BA);clear BA;go_wp2_with fail;go_roundw
    case rel=>exact ⟨k+1,by omega,by go_num,by rw[fX.o];exact bU.o,HG.o⟩
    case measure=>simp[intOf];omega
def jG (w:World) (B:Nat) (v:Value) (n:Nat) (rs:List vT) (x:List (List aj)):Prop:=rs.length=n∧w.ownsRow B 45 1 v n (bk GZ rs)∧(∀(i:Nat) s t,rs[i]?=some s→x[i]?=some t→w.ownsRow B 52 4 (gY s) t.length (aI t))∧∀(i j:Nat) s s',i≠j→rs[i]?=some s→rs[j]?=some s'→eo (gY s) (gY s')
theorem X6 (W:World) (n:Nat) (hn:n≤1000):∃w1,(Instr.makeSlice 28 (.int .i64 0) (.int .i64 n)).run prog W=.ok (.slice (some ⟨W.heap.size,0,none⟩) 0 n) w1∧w1.ownsRow W.heap.size 45 1 (.slice (some ⟨W.heap.size,0,none⟩) 0 n) 0 (bk GZ [])∧Bw W w1:=by obtain ⟨i0,hi,hz0,hz1,hz2⟩:=info_parts yQ;obtain ⟨w1,jJ,hown,hg⟩:=run_make_own (P:=prog) W W.heap.size 28 45 i0 (.slice none 0 0) 1 underlying28 hi hz0 hz1 .i64 .i64 n (by rw[hz2];omega) (by unfold maxLen;omega) aT;exact ⟨w1,jJ,hown,aH.grown hg aT (fun k e=>by cases e)⟩
theorem A6 (W:World) (B n:Nat) (v:Value) (rs:List vT) (s:vT) (hown:W.ownsRow B 45 1 v n (bk GZ rs)) (hn:n≤100000000) (hB:B≤W.heap.size) :
 ∃g cap w2,(Builtin.append_ #[28,28] 28 #[v,.slice (some ⟨W.heap.size,0,none⟩) 1 1]).run prog (W.alloc (.cells #[.slice s.1 s.2.1 s.2.2] 45))=.ok (.slice (some ⟨g,0,none⟩) (n+1) cap) w2∧ku W w2 B n 45 1 v (bk GZ rs) (GZ s) g cap:=by
 obtain ⟨i0,iM,hz0,hz1,hz2⟩:=info_parts yQ;exact eV 28 45 i0 _ 1 24 underlying28 iM hz0 hz1 hz2 rfl (by decide) (by decide) W B n v (bk GZ rs) (GZ s) hown rfl (Mn s) hn hB
theorem rS {w2:World} {k' n':Nat} {e e':TypeId} {v':Value} {xs ys:List Value} (h:w.ownsRow B e k v n xs) (h':w2.ownsRow w.heap.size e' k' v' n' ys):eo v v'∧eo v' v:=by
 cases hv:v.ownBlock with
 |none=>exact ⟨.inl hv,by
  cases hv':v'.ownBlock with
  |none=>exact .inl hv'
  |some g=>exact .inr (by rw[hv,hv'];simp)⟩
 |some g=>
  have h1:=(h.lt g hv).2;have hne:v.ownBlock≠v'.ownBlock:=fun e=>by have:=(h'.lt g (by rw[← e];exact hv)).1;omega
  exact ⟨.inr hne,.inr (fun e=>hne e.symm)⟩
theorem A7 {s0:vT} (hl:rs.length=k) (h:∀(i j:Nat) s s',i≠j→rs[i]?=some s→rs[j]?=some s'→eo (gY s) (gY s')) (hn:∀(i:Nat) s,rs[i]?=some s→eo (gY s) (gY s0)∧eo (gY s0) (gY s)):∀(i j:Nat) s s',i≠j→(rs++[s0])[i]?=some s→(rs++[s0])[j]?=some s'→eo (gY s) (gY s'):=by
 intro i j s s' xz hi hj;have pO:=(List.getElem?_eq_some_iff.1 hi).1;have D7:=(List.getElem?_eq_some_iff.1 hj).1;rw[List.length_append,hl] at pO D7;simp only[List.length_cons,List.length_nil] at pO D7;by_cases e:i<k
 ·rw[List.getElem?_append_left (by omega)] at hi
  by_cases e':j<k
  ·rw[List.getElem?_append_left (by omega)] at hj
   exact h i j s s' xz hi hj
  ·rw[List.getElem?_append_right (by omega),show j-rs.length=0 by omega] at hj
   simp only[List.getElem?_cons_zero,Option.some.injEq] at hj;subst hj;exact (hn i s hi).1
 ·rw[List.getElem?_append_right (by omega),show i-rs.length=0 by omega] at hi
  simp only[List.getElem?_cons_zero,Option.some.injEq] at hi;subst hi;rw[List.getElem?_append_left (by omega)] at hj;exact (hn j s' hj).2
theorem Di (x:List (List aj)) (v1:Value) (w:World) (h1:dH w v1 x) (hl:x.length≤1000) (S8:∀t∈x,t.length≤1000):Calls prog 77 #[v1,.func (.func 78) #[] #[]] w fun e w'=>∃g cap rs,e=.returned (.slice (some ⟨g,0,none⟩) x.length cap)∧jG w' w.heap.size (.slice (some ⟨g,0,none⟩) x.length cap) x.length rs x∧Bw w w':=by
 obtain ⟨p,cp,rfl,a1,a2,ha⟩:=h1;have HA:=aa ha;have ZX:=aa S8;obtain ⟨N,hN⟩:=aG x.length;rw[hN] at a1 hl;rw[hN];have hlc:(N:Int)≤9223372036854775807:=by omega
 have HN:=aa hN;have rC:=aa hl;obtain ⟨w6,jJ,hrow,cV⟩:=X6 w N hl;have AQ:=aa hrow;have cU:=aa cV;clear ha hN a1 a2 hrow cV hl S8;go_enter func77,ntmps77;go_wp2_with fail;clear jJ;go_loopw [13,5,7] (fun i o _ wr=>∃(k:Nat) (g:Nat) (co:Nat) (rs:List vT),k≤N∧i=.int .i64 k∧o=.slice (some ⟨g,0,none⟩) k co∧jG wr w.heap.size o k rs x∧Bw w wr) (fun i _ _ _=>N-(intOf i).toNat)
 case atStart=>exact ⟨0,_,_,[],dO,rfl,rfl,⟨rfl,AQ,fun i s t hs=>by simp at hs,fun i j s s' _ hs=>by simp at hs⟩,cU⟩
 case round=>
  obtain ⟨k,gr,co,rs,hk,rfl,rfl,hrow,hb⟩:=hrel;have bU:=aa hrow;have HB:=aa hb;clear hrow hb;by_cases hlt:k<N
  case neg=>
   obtain rfl:k=N:=by omega
   go_wp2_with fail;go_ret;exact ⟨gr,co,rs,rfl,bU,HB⟩
  case pos=>
   have fN:(k:Int)<(N:Int):=(by omega);obtain ⟨s,hs⟩:=fx (l:=x) (k:=k) (by rw[HN.o];omega);obtain ⟨g,o,u1,rfl,x1,x2⟩:=HA.o k _ hs;obtain ⟨su,rfl⟩:=x2.sl;have wV:=uR (x2.keep (af HB));unfold gY at *;have r0:=ae HB x1;have eJ:=aa (kF su.1 su.2.1 su.2.2 (aI s) wr wV.2 (by have:=ZX.o s (List.mem_of_getElem? hs);omega));have yn:=aa wV.1;have HS:=aa hs;clear hs x1 x2 wV;go_wp2_with (first|(go_at_call 78;(with_reducible refine eJ.o.mono ?_);(rintro e w2 ⟨v2,rfl,ho,hb⟩);(obtain ⟨p2,c2,rfl⟩:=ez ho);(obtain ⟨g2,SP,w3,hrun,bY⟩:=A6 w2 w.heap.size k _ rs (p2,su.2.1,c2) (aL bU.o.2.1 hb) (by have:=rC.o;omega) (Nat.le_trans HB.o.size hb.size));(have dJ:=aa hrun);(have yD:=aa bY);(have nD:=aa ho);(have ZY:=aa (fun (v:Value) (n:Nat) (xs:List Value) (B:Nat) (h:wr.ownsRow B 52 4 v n xs)=>show eo v (gY (p2,su.2.1,c2))∧eo (gY (p2,su.2.1,c2)) v from rS h ho));(have Jq:=aa (fun (i:Nat) (s:vT) (t:List aj) (h1:rs[i]?=some s) (h2:x[i]?=some t)=>aL (bU.o.2.2.1 i s t h1 h2) hb));(have S9:=aa hb);(have dF:=aa (show Bw w w3 from (ak HB.o hb).trans bY.below));(clear hb hrun bY ho))|(at_builtin;refine Lib.wpList_append_run _ rfl _ _ _ _ rfl _ _ rfl rfl _ _ dJ.o ?_));go_roundw
   case rel=>
    refine ⟨k+1,_,_,rs++[(p2,su.2.1,c2)],by omega,by go_num,rfl,⟨by rw[List.length_append,bU.o.1];rfl,by rw[← fC];exact yD.o.row,fun i s' t nM ht=>?_,fun i j s1 s2 xz h1 h2=>?_⟩,dF.o⟩
    rotate_left
    ·exact A7 bU.1 bU.2.2.2 (fun i s' nM=>by
      have hi:=(List.getElem?_eq_some_iff.1 nM).1;rw[bU.o.1] at hi;have h:=bU.2.2.1 i s' _ nM (List.getElem?_eq_getElem (by rw[HN.o];omega));exact ZY _ _ _ _ h) i j s1 s2 xz h1 h2
    by_cases e:i<k
    ·rw[List.getElem?_append_left (by rw[bU.o.1];exact e)] at nM
     have h:=Jq.o i s' t nM ht;have hr2:=aL bU.2.1 (show Bw wr w2 from S9);exact (yD.others _ _ _ _ _ _ h (cP h hr2 (by decide))).1
    ·have hik:i=k:=by
      have:=(List.getElem?_eq_some_iff.1 nM).1;rw[List.length_append,bU.o.1] at this;simp at this;omega
     subst hik;rw[List.getElem?_append_right (by rw[bU.o.1];exact aT),bU.o.1,Nat.sub_self] at nM;simp only[List.getElem?_cons_zero,Option.some.injEq] at nM;subst nM;rw[HS.o] at ht;cases ht;have h:=bz HB.size nD.o;rw[yn.o] at h;have hr2:=aL bU.2.1 (show Bw wr w2 from S9);have h9:=(yD.others _ _ _ _ _ _ h (cP h hr2 (by decide))).1;unfold gY;simp only;rw[yn.o];exact h9
   case measure=>simp[intOf];omega
theorem jG.set {W:World} {g cap i:Nat} {x:List (List aj)} {s2:vT} (h:jG W B (.slice (some ⟨g,0,none⟩) n cap) n rs x) (ho:W.ownsRow B 52 4 (gY s2) l.length (aI l)) (hap:∀(j:Nat) s,rs[j]?=some s→¬j=i→eo (gY s) (gY s2)∧eo (gY s2) (gY s)) (hi:i<n):jG (W.setCell ⟨g,i,none⟩ (gY s2)) B (.slice (some ⟨g,0,none⟩) n cap) n (rs.set i s2) (x.set i l):=by
 obtain ⟨h1,h2,h3,h4⟩:=h;have keep:∀(v:Value) (m:Nat) (xs:List Value),W.ownsRow B 52 4 v m xs→(W.setCell ⟨g,i,none⟩ (gY s2)).ownsRow B 52 4 v m xs:=fun v m xs hv=>
  hv.kept (av W g i _) (by
   rcases cP hv h2 (by decide) with h5|h5
   ·exact .inl h5
   ·exact .inr h5)
 refine ⟨by rw[List.length_set];exact h1,yR lB h2 (by omega) rfl,fun j s t hs ht=>?_,fun j k s s' hjk hs nM=>?_⟩
 ·by_cases e:i=j
  ·subst e
   have hx:=(List.getElem?_eq_some_iff.1 ht).1;rw[List.length_set] at hx;rw[List.getElem?_set_self (by omega)] at hs;rw[List.getElem?_set_self hx] at ht;cases hs;cases ht;exact keep _ _ _ ho
  ·rw[List.getElem?_set_ne e] at hs ht
   exact keep _ _ _ (h3 j s t hs ht)
 ·by_cases e:i=j
  ·subst e
   rw[List.getElem?_set_self (by omega)] at hs;rw[List.getElem?_set_ne hjk] at nM;cases hs;exact (hap k s' nM (fun e=>hjk e.symm)).2
  ·rw[List.getElem?_set_ne e] at hs
   by_cases e':i=k
   ·subst e'
    rw[List.getElem?_set_self (by omega)] at nM;cases nM;exact (hap j s hs (fun e9=>e e9.symm)).1
   ·rw[List.getElem?_set_ne e'] at nM
    exact h4 j k s s' hjk hs nM
def mB (w:World) (B:Nat) (v:Value) (c:List (List aj)):Prop:=(v=.slice none 0 0∧c=[])∨∃g cap rs,v=.slice (some ⟨g,0,none⟩) c.length cap∧jG w B (.slice (some ⟨g,0,none⟩) c.length cap) c.length rs c
theorem jG.mono {B':Nat} {x:List (List aj)} (h:jG w B v n rs x) (hb:B'≤B):jG w B' v n rs x:=⟨h.1,bz hb h.2.1,fun i s t hs ht=>bz hb (h.2.2.1 i s t hs ht),h.2.2.2⟩
theorem jH (h:cI c=true):c.length≤1000∧∀t∈c,t.length≤1000:=by unfold cI at h;simp only[Bool.and_eq_true,decide_eq_true_eq,List.all_eq_true] at h;exact ⟨h.2.2,fun t ht=>by have:=gP (h.1 t ht);omega⟩
theorem IH (c:List (List aj)) (n no:Int) (hn:aQ n) (v1:Value) (w:World) (h1:dH w v1 c):Calls prog 28 #[v1,.int .i64 n,.int .i64 no] w (fun e w'=>∃v,e=.returned (.tuple #[v,.int .i64 (bR c n no).2.1,.int .i64 (bR c n no).2.2.1,.bool (bR c n no).2.2.2])∧mB w' w.heap.size v (bR c n no).1∧Bw w w'):=by
 have eJ:=aa (tO c v1 w h1);have S7:=aa (fun (hm:cI c=true) (W:World) (hb:Bw w W)=>Di c v1 W (h1.keep (af hb)) (jH hm).1 (jH hm).2);obtain ⟨m,hm⟩:=aG (cI c);have HM:=aa hm;rw[hm] at eJ S7;obtain ⟨r,hr⟩:=aG (bR c n no);have HR:=aa hr;rw[hr];unfold bR at HR;clear hr;obtain ⟨p,cp,rfl,a1,a2,ha⟩:=h1;have HA:=aa ha;obtain ⟨N,hN⟩:=aG c.length;rw[hN] at a1 eJ S7;rw[hN];have hlc:=fG (n:=N) a2;have HN:=aa hN;clear ha hN a1 a2 hm;have HI:=aa hn;clear hn;go_enter func28,ntmps28;cases m with
 |false=>have HE:=aa (show r=([],0,0,false) by rw[← HR.o,if_neg (by rw[HM.o];simp)]);go_wp2_with (go_at_call 63;(refine eJ.o.mono ?_);rintro e w5 ⟨rfl,aR⟩;have bp:=aa aR;clear aR);refine au (v:=.tuple #[.slice none 0 0,.int .i64 0,.int .i64 0,.bool false]) ⟨.slice none 0 0,by rw[HE.o],by rw[HE.o];exact .inl ⟨rfl,rfl⟩,bp⟩ ?_;simp[results,results28,go_sem]
 |true=>
  have HE:=aa (show (match jT n no 0 c with|some (i,t,a)=>(c.set i t,(i:Int),a,true)|none=>([],0,0,false))=r by have h:=HR.o;rw[if_pos HM.o] at h;exact h);have yF:=aa (show N≤1000 by rw[← HN.o];exact (jH HM).1);go_upto_region 3 with (go_at_call 63;(refine eJ.o.mono ?_);rintro e w5 ⟨rfl,aR⟩;have bp:=aa aR;clear aR);go_wp2_with fail;go_loopw [21,10,11,12,13,14] (fun i _ _ _ _ _ wr=>∃k:Nat,k≤N∧i=.int .i64 k∧jT n no 0 c=jT n no k (c.drop k)∧Bw w wr) (fun i _ _ _ _ _ _=>N-(intOf i).toNat)
  case atStart=>exact ⟨0,dO,rfl,by rw[List.drop_zero],bp⟩
  case round=>
   obtain ⟨k,hk,rfl,heq,hb⟩:=hrel;have xA:=aa heq;have HB:=aa hb;clear heq hb;by_cases hlt:k<N
   case neg=>
    obtain rfl:k=N:=by omega
    have HG:=aa (show r=([],0,0,false) by rw[← HE.o,xA.o,List.drop_of_length_le (by rw[HN.o];exact aT)];rfl);go_wp2_with fail;refine au (v:=.tuple #[.slice none 0 0,.int .i64 0,.int .i64 0,.bool false]) ⟨.slice none 0 0,by rw[HG.o],by rw[HG.o];exact .inl ⟨rfl,rfl⟩,HB⟩ ?_;simp[results,results28,go_sem]
   case pos=>
    have fN:(k:Int)<(N:Int):=(by omega);have MQ:(0:Int)≤(k:Int):=by omega
    obtain ⟨t,ht⟩:=fx (l:=c) (k:=k) (by rw[HN.o];omega);obtain ⟨g,o,u1,rfl,x1,x2⟩:=HA.o k _ ht;obtain ⟨pu,cu,rfl,_⟩:=id x2;have r0:=ae HB x1;have si:=aa (fun W (hb:Bw w W)=>ID t n HI _ W (x2.keep (af hb)));have fX:=aa (Ak (n:=n) (no:=no) ht);clear ht x1 x2;obtain ⟨q,hq⟩:=aG (gQ t n);obtain ⟨t2,a,b⟩:=q;rw[hq] at si fX;clear hq;simp only at si fX;by_cases hno:(k:Int)=no
    case pos=>
     have Mo:=aa (show jT n no 0 c=jT n no (k+1) (c.drop (k+1)) by rw[xA.o,fX.o,if_neg (fun h=>h.2 hno)]);have G3:((k:Int)==no)=true:=by simpa using hno
     clear hno;go_wp2_with fail;go_roundw
     case rel=>exact ⟨k+1,by omega,by go_num,Mo.o,HB.o⟩
     case measure=>simp[intOf];omega
    case neg=>
    have G3:((k:Int)==no)=false:=(by simpa using hno);have oI:=aa hno;clear hno;cases b with
    |false=>
     have Mo:=aa (show jT n no 0 c=jT n no (k+1) (c.drop (k+1)) by rw[xA.o,fX.o,if_neg (fun h=>by cases h.1)]);go_wp2_with (go_at_call 76;(refine (si.o _ HB.o).mono ?_);rintro e w6 ⟨v6,rfl,XH,cV⟩;have cU:=bh HB cV;clear cV XH);go_roundw
     case rel=>exact ⟨k+1,by omega,by go_num,Mo.o,cU.o⟩
     case measure=>simp[intOf];omega
    |true=>
     have HG:=aa (show r=(c.set k t2,(k:Int),a,true) by rw[← HE.o,xA.o,fX.o,if_pos ⟨rfl,oI⟩]);go_upto_region 10 with (first|(go_at_call 76;(with_reducible refine (si.o _ HB.o).mono ?_);(rintro e w6 ⟨v6,rfl,XH,cV⟩);(obtain ⟨s6,hs6⟩:=(fj XH).sl);(unfold gY at hs6);(subst hs6);(have Fg:=aa XH);(have cU:=bh HB cV);(have akC:=aa cV.size);(clear cV XH))|(go_at_call 77;(with_reducible refine (S7.o (by trivial) _ cU.o).mono ?_);(rintro e w7 ⟨g7,afo,rs7,rfl,Mp,dL⟩);(have Eo:=aa Mp);(have fw:=bh cU dL);(have pP:=aa (aL Fg.o dL));(clear dL Mp)));obtain ⟨s0,hs0⟩:∃s,rs7[k]?=some s:=⟨_,List.getElem?_eq_getElem (by rw[Eo.o.1];exact hlt)⟩
     have c0:w7.cell? ⟨g7,k,none⟩=some (gY s0):=by obtain ⟨h6,h7⟩:=List.getElem?_eq_some_iff.1 (eN lB rs7 k s0 0 (gY s0) hs0 rfl);have:=bG Eo.2.1 _ h6;rw[h7] at this;simpa using this
     have f0:=gj Eo.2.1 k;have ow:=aa (jG.set (i:=k) (s2:=s6) (l:=t2) (Eo.mono (Nat.le_trans HB.size (by have:=Fg.o;have h2:=akC.o;exact h2))) (bz HB.size pP) (fun j s hs hj=>by
      have UD:j<c.length:=by rw[HN.o,← Eo.o.1];exact (List.getElem?_eq_some_iff.1 hs).1
      have h:=Eo.2.2.1 j s _ hs (List.getElem?_eq_getElem UD);have h9:=rS Fg h;exact ⟨h9.2,h9.1⟩) hlt)
     have yC:=aa (fw.setCell (p:=⟨g7,k,none⟩) (Nat.le_trans cU.size (Eo.2.1.lt g7 rfl).1) (gY s6));unfold gY at c0 ow yC;clear r0 hs0;go_wp2_with fail;refine au (v:=.tuple #[.slice (some ⟨g7,0,none⟩) N afo,.int .i64 k,.int .i64 a,.bool true]) ⟨_,by rw[HG.o],by rw[HG.o];exact .inr ⟨g7,afo,_,by rw[List.length_set,HN.o],by rw[List.length_set,HN.o];exact ow⟩,yC⟩ ?_;simp[results,results28,go_sem]
theorem Wm {v:aj} (hm:dE t=true) (hj:t[j]?=some u) (hk:t[k]?=some v) (h:u.1=v.1):j=k:=by
 have key:∀(j k:Nat) (u v:aj),t[j]?=some u→t[k]?=some v→j<k→u.1<v.1:=fun j k u v hj hk hlt=>by
  have h1:=qK hm hj;have h2:v∈t.drop (j+1):=by rw[List.mem_iff_getElem?];exact ⟨k-(j+1),by rw[List.getElem?_drop,show j+1+(k-(j+1))=k by omega];exact hk⟩
  have h3:=AU h1 v h2;have h4:=cj.1 (iw hm (List.mem_of_getElem? hj));omega
 rcases Nat.lt_trichotomy j k with h1|h1|h1
 ·have:=key j k u v hj hk h1;omega
 ·exact h1
 ·have:=key k j v u hk hj h1;omega
theorem K7 {x:aB} {C:Nat} (hm:cI c=true) (hx:cO x=true) (hC:x.chunk=C) (ht:c[C]?=some t) (hno:∀(j:Nat) u,t[j]?=some u→¬(u.1=x.pos∧¬u.2.1=cg x.size)) :
 fM c x (-1)=if (jD t x.pos (-1)).2=true then (c.set C (jD t x.pos (-1)).1,true) else ([],false):=by
 have hl:=(List.getElem?_eq_some_iff.1 ht).1;unfold fM;rw[hC,Int.toNat_natCast,ht,Option.getD_some];by_cases hh:G2 c x=true
 ·rw[if_pos ⟨hm,hh⟩]
 ·rw[if_neg (fun h=>hh h.2)]
  have akD:mh x.pos t=0:=by
   rcases tM (a:=x.pos) t 0 with ⟨_,h,_⟩|⟨j,u,_,hj,hu,hc,_⟩
   ·exact h
   ·exfalso
    apply hh;have hlen:u.2.1=cg x.size:=Classical.byContradiction fun h=>hno j u hj ⟨hu,h⟩;unfold G2;rw[hx,hC,decide_eq_true (by omega),Int.toNat_natCast,ht,Option.getD_some,Bool.true_and,Bool.true_and];exact Mt.2 ⟨j,u,hj,hu,hlen⟩
  have hf:(jD t x.pos (-1)).2=false:=by unfold jD;rw[if_neg (fun h=>h.2.1 akD)]
  rw[hf];rfl
theorem K8 {x:aB} {C:Nat} (hm:cI c=true) (hC:x.chunk=C) (ht:c[C]?=some t) (hk:t[k]?=some u) (hu:u.1=x.pos∧¬u.2.1=cg x.size):fM c x (-1)=([],false):=by
 unfold fM;rw[if_neg];rintro ⟨_,h⟩;unfold G2 at h;rw[hC,Int.toNat_natCast,ht,Option.getD_some,Bool.and_eq_true] at h;obtain ⟨j,v,hj,hv1,hv2⟩:=Mt.1 h.2;have vV:dE t=true:=by unfold cI at hm;simp only[Bool.and_eq_true,List.all_eq_true] at hm;exact hm.1 t (List.mem_of_getElem? ht)
 have:=Wm vV hk hj (by rw[hu.1,hv1]);subst this;rw[hk] at hj;cases hj;exact hu.2 hv2
theorem X7 {W:World} {b1 b2:Nat} {x0 x1 x2 x3 z0 z1 z2 z3:Value} (h1:aK W b1 [x0,x1,x2,x3]) (h2:aK W b2 [z0,z1,z2,z3]):W.cell? ⟨b1,0,none⟩=some x0∧W.cell? ⟨b1,1,none⟩=some x1∧W.cell? ⟨b2,0,none⟩=some z0∧W.cell? ⟨b2,1,none⟩=some z1∧W.cell? ⟨b2,2,none⟩=some z2∧W.cell? ⟨b2,3,none⟩=some z3:=⟨h1.cell rfl,h1.cell rfl,h2.cell rfl,h2.cell rfl,h2.cell rfl,h2.cell rfl⟩
theorem mB.sl (h:mB w B v c):∃p n k,v=.slice p n k:=by
 rcases h with ⟨h,_⟩|⟨g,cap,rs,h,_⟩
 ·exact ⟨_,_,_,h⟩
 ·exact ⟨_,_,_,h⟩
theorem mB.mono {B':Nat} (h:mB w B v c) (hb:B'≤B):mB w B' v c:=by
 rcases h with h|⟨g,cap,rs,h1,h2⟩
 ·exact .inl h
 ·exact .inr ⟨g,cap,rs,h1,h2.mono hb⟩
theorem Ta (t:List aj) (B:Nat) (x:aB) (v1:Value) (w:World) (h1:dA w v1 t) (hB:w.cell? ⟨B,1,none⟩=some (.int .i64 x.pos)):Calls prog 138 #[v1,.pointer (some ⟨B,0,none⟩)] w fun e w'=>∃v,e=.returned (.tuple #[v,.bool (jD t x.pos (-1)).2])∧w'.ownsRow w.heap.size 52 4 v (jD t x.pos (-1)).1.length (aI (jD t x.pos (-1)).1)∧Bw w w':=by have HD:=aa (K5 t x.pos v1 w h1);obtain ⟨p,cp,rfl,_⟩:=h1;obtain ⟨q,hq⟩:=aG (jD t x.pos (-1));rw[hq] at HD ⊢;clear hq;go_enter func138,ntmps138;go_wp2_with (go_at_call 139;(refine HD.o.mono ?_);(rintro e w2 ⟨v2,rfl,ho,hb⟩);(obtain ⟨p2,c2,rfl⟩:=ez ho);have HO:=aa ho;have HB:=aa hb;clear ho hb);refine au (v:=.tuple #[.slice p2 q.1.length c2,.bool q.2]) ⟨_,rfl,HO,HB⟩ ?_;simp[results,results138,go_sem]
theorem K9 (c:List (List aj)) (x:aB) (B:Nat) (v1:Value) (w:World) (h1:dH w v1 c) (hB:w.cell? ⟨B,1,none⟩=some (.int .i64 x.pos)):Calls prog 137 #[v1,x.agg,.func (.func 138) #[] #[.pointer (some ⟨B,0,none⟩)]] w (fun e w'=>∃v,e=.returned (.tuple #[v,.bool (fM c x (-1)).2])∧mB w' w.heap.size v (fM c x (-1)).1∧Bw w w'):=by
 have eJ:=aa (fun W (hb:Bw w W)=>tO c v1 W (h1.keep (af hb)));have HRM:=aa (fun W=>oL x W);have S7:=aa (fun (hm:cI c=true) (W:World) (hb:Bw w W)=>Di c v1 W (h1.keep (af hb)) (jH hm).1 (jH hm).2);have Wn:=aa (fun (t:List aj) (v:Value) (W:World) (hb:Bw w W) (h:dA W v t)=>Ta t B x v W h (ae hb hB));obtain ⟨m,hm⟩:=aG (cI c);have HM:=aa hm;rw[hm] at eJ S7;obtain ⟨mr,hmr⟩:∃m,cO x=m:=⟨_,rfl⟩
 have HR:=aa hmr;rw[hmr] at HRM;have HI:=aa (bL x);have QE:=aa (fun (C:Nat) (t:List aj) (h1:cI c=true) (h2:cO x=true) (h3:x.chunk=C) (h4:c[C]?=some t) h5=>K7 h1 h2 h3 h4 h5);have afq:=aa (fun (C:Nat) (t:List aj) (k:Nat) (u:aj) (h1:cI c=true) (h3:x.chunk=C) (h4:c[C]?=some t) (h5:t[k]?=some u) h6=>K8 h1 h3 h4 h5 h6);have oI:=aa (show ¬(cI c=true∧cO x=true∧x.chunk<c.length)→fM c x (-1)=([],false) from fun h=>by
  unfold fM;rw[if_neg];rintro ⟨h2,h3⟩;unfold G2 at h3;simp only[Bool.and_eq_true,decide_eq_true_eq] at h3;exact h ⟨h2,h3.1.1,h3.1.2⟩)
 obtain ⟨r,hr⟩:=aG (fM c x (-1));rw[hr] at oI ⊢;have G6:=aa hr;obtain ⟨p,cp,rfl,a1,a2,ha⟩:=h1;have HA:=aa ha;obtain ⟨N,hN⟩:=aG c.length;rw[hN] at a1 eJ S7 oI;rw[hN];have hlc:=fG (n:=N) a2;have HN:=aa hN;clear ha hN a1 a2 hm hmr hr hB;have rC:=aa (fun (L:Int) (h0:1≤x.size) (h1:x.size≤256) (hL:cg x.size=L) W=>wY x.chunk x.pos x.size L x.packed (by omega) (by omega) hL W);obtain ⟨xc,xp,xs,xk⟩:=x;unfold aB.agg at *;simp only at HRM Wn HI QE afq rC oI ⊢;obtain ⟨W1,hW1⟩:=aG (w.alloc (.cells #[.int .i64 xc,.int .i64 xp,.int .i64 xs,.bool xk] 50));have aU:=aa (show aK W1 w.heap.size [.int .i64 xc,.int .i64 xp,.int .i64 xs,.bool xk] by rw[← hW1];exact aK.new w _ _);have aY:=aa (show Bw w W1 by rw[← hW1];exact ar);have ee:=aa hW1;clear hW1;go_enter func137,ntmps137;go_upto_region 1 with fail;rw[ee.o];clear ee;obtain ⟨x0,x1,x2,x3⟩:=aU.four;cases m with
 |false=>have HE:=aa (show r=([],false) from oI (fun h=>by rw[HM.o] at h;exact absurd h.1 (by simp)));go_wp2_with (go_at_call 63;(refine (eJ.o _ aY.o).mono ?_);rintro e w5 ⟨rfl,aR⟩;have bp:=bh aY aR;clear aR);refine au (v:=.tuple #[.slice none 0 0,.bool false]) ⟨.slice none 0 0,by rw[HE.o],by rw[HE.o];exact .inl ⟨rfl,rfl⟩,bp⟩ ?_;simp[results,results137,go_sem]
 |true=>
 cases mr with
 |false=>have HE:=aa (show r=([],false) from oI (fun h=>by rw[HR.o] at h;exact absurd h.2.1 (by simp)));go_wp2_with (first|(go_at_call 63;(with_reducible refine (eJ.o _ aY.o).mono ?_);rintro e w5 ⟨rfl,aR⟩;have bp:=bh aY aR;have fK:=aa (aU.o.below aR);clear aR;obtain ⟨y0,y1,y2,y3⟩:=fK.o.four)|(go_at_call 80;(with_reducible refine (HRM.o _).mono ?_);rintro e w6 ⟨rfl,cV⟩;have cU:=bh bp cV;clear cV));refine au (v:=.tuple #[.slice none 0 0,.bool false]) ⟨.slice none 0 0,by rw[HE.o],by rw[HE.o];exact .inl ⟨rfl,rfl⟩,cU⟩ ?_;simp[results,results137,go_sem]
 |true=>
 obtain ⟨q0,q1,q2,q3,q4,q5,q6⟩:=HI.1 HR.o;obtain ⟨C,rfl⟩:∃C:Nat,xc=C:=⟨xc.toNat,by omega⟩
 by_cases qC:C<N
 case neg=>have HE:=aa (show r=([],false) from oI (fun h=>qC (by have:=h.2.2;omega)));have hd:decide ((N:Int)≤(C:Int))=true:=decide_eq_true (by omega);have QP:decide (N≤C)=true:=decide_eq_true (by omega);clear q0 q1 q2 q3 q4 q5 q6;go_wp2_with (first|(go_at_call 63;(with_reducible refine (eJ.o _ aY.o).mono ?_);rintro e w5 ⟨rfl,aR⟩;have bp:=bh aY aR;have fK:=aa (aU.o.below aR);clear aR;obtain ⟨y0,y1,y2,y3⟩:=fK.o.four)|(go_at_call 80;(with_reducible refine (HRM.o _).mono ?_);rintro e w6 ⟨rfl,cV⟩;have cU:=bh bp cV;have kS:=aa (fK.o.below cV);clear cV;have z0:=kS.o.cell (j:=0) rfl));refine au (v:=.tuple #[.slice none 0 0,.bool false]) ⟨.slice none 0 0,by rw[HE.o],by rw[HE.o];exact .inl ⟨rfl,rfl⟩,cU⟩ ?_;simp[results,results137,go_sem]
 case pos=>
 obtain ⟨L,hL⟩:=aG (cg xs);have Kc:=aa (fun W=>rC L q2 q3 hL W);have nV:=aa hL;have hd:decide ((N:Int)≤(C:Int))=false:=decide_eq_false (by omega);have QP:decide (N≤C)=false:=decide_eq_false (by omega);have hci:(C:Int)<(N:Int):=by omega
 obtain ⟨t,ht⟩:=fx (l:=c) (k:=C) (by rw[HN.o];exact qC);obtain ⟨g,o,u1,rfl,e1,e2⟩:=HA.o C _ ht;have HU:=aa e2;obtain ⟨pu,cu,rfl,b1,b2,hu⟩:=e2;have ZZ:=aa e1;have HUC:=aa hu;have HT:=aa ht;obtain ⟨M,hM⟩:=aG t.length;rw[hM] at b1 ZZ HU;have rZ:=aa hM;have Ys:=fG (n:=M) b2;clear e1 hu ht hM b1 b2 hL q0 q1 q2 q3 q4 q5 q6;go_upto_region 3 with (first|(go_at_call 63;(with_reducible refine (eJ.o _ aY.o).mono ?_);rintro e w5 ⟨rfl,aR⟩;have bp:=bh aY aR;have fK:=aa (aU.o.below aR);clear aR;obtain ⟨y0,y1,y2,y3⟩:=fK.o.four)|(go_at_call 80;(with_reducible refine (HRM.o _).mono ?_);rintro e w6 ⟨rfl,cV⟩;have cU:=bh bp cV;have kS:=aa (fK.o.below cV);clear cV;have z0:=kS.o.cell (j:=0) rfl));have r1:=ae cU ZZ.o;clear x0 x1 x2 x3 y0 y1 y2 y3;go_wp2_with fail;clear z0 r1;go_loopw [34,9] (fun i _ wr=>∃k:Nat,k≤M∧i=.int .i64 k∧(∀(j:Nat) u,j<k→t[j]?=some u→¬(u.1=xp∧¬u.2.1=L))∧aK wr w.heap.size [.int .i64 C,.int .i64 xp,.int .i64 xs,.bool xk]∧Bw w wr) (fun i _ _=>M-(intOf i).toNat)
 case atStart=>exact ⟨0,dO,rfl,fun j _ hj=>by omega,kS,cU⟩
 case round=>
  obtain ⟨k,hk,rfl,hall,hx,hb⟩:=hrel;have ed:=aa hall;have HX:=aa hx;have HB:=aa hb;clear hall hx hb;by_cases hlt:k<M
  case pos=>
   have fN:(k:Int)<(M:Int):=(by omega);obtain ⟨⟨ua,ub,uc,ud⟩,hu⟩:∃s,t[k]?=some s:=⟨_,List.getElem?_eq_getElem (by rw[rZ.o];omega)⟩
   obtain ⟨g',o',rfl,y1⟩:=HUC.o k _ hu;obtain ⟨r0,r1,r2,r3⟩:=y1.keep (af HB);simp only at r0 r1 r2 r3;have HUU:=aa hu;clear hu y1;obtain ⟨W2,hW2⟩:=aG (wr.alloc (.cells #[.int .i64 ua,.int .i64 ub,.int .i64 uc,.bool ud] 52));have iY:Bw wr W2:=by rw[← hW2];exact ar
   have CT:=aa (show aK W2 wr.heap.size [.int .i64 ua,.int .i64 ub,.int .i64 uc,.bool ud] by rw[← hW2];exact aK.new wr _ _);have dV:=aa (HX.below iY);have bS:=bh HB iY;go_upto_region 6 with fail
   try rw[hW2]
   clear hW2 iY r0 r1 r2 r3;by_cases hat:ua=xp
   case neg=>
    have e1:(ua==xp)=false:=(by simpa using hat);obtain ⟨u0,u1,u2,u3⟩:=CT.four;obtain ⟨z0,z1,z2,z3⟩:=dV.four;go_quiet (fail);go_wp2_with fail;go_roundw
    case rel=>
     refine ⟨k+1,by omega,by go_num,fun j u hj hu=>?_,dV.o.below (az aH _),az bS.o _⟩;by_cases e:j=k
     ·subst e;rw[HUU.o] at hu;cases hu;exact fun h=>hat h.1
     ·exact ed j u (by omega) hu
    case measure=>simp[intOf];omega
   case pos=>
    have e1:(ua==xp)=true:=(by simpa using hat);have QV:=aa hat;clear hat;have fJ:=aa bS.drew;have HST:=aa (X7 CT.drew dV.drew);go_region_held3 (fun w'=>w'.cell? ⟨wr.heap.size,0,none⟩=some (.int .i64 ua)∧w'.cell? ⟨wr.heap.size,1,none⟩=some (.int .i64 ub)∧w'.cell? ⟨w.heap.size,0,none⟩=some (.int .i64 C)∧w'.cell? ⟨w.heap.size,1,none⟩=some (.int .i64 xp)∧w'.cell? ⟨w.heap.size,2,none⟩=some (.int .i64 xs)∧w'.cell? ⟨w.heap.size,3,none⟩=some (.bool xk))
     (first|exact HST.o|exact gq.o)
     (first|((with_reducible refine (Kc.o _).mono ?_);rintro e w7 ⟨rfl,hb⟩;have yq:=bh fJ hb;have ZU:=aa (dV.o.drew.below hb);have gq:=aa (X7 (CT.o.drew.below hb) (dV.o.drew.below hb));clear hb))
    by_cases hln:ub=L
    ·have e2:(ub != L)=false:=by simpa using hln
     go_wp2_with fail;go_roundw
     case rel=>
      refine ⟨k+1,by omega,by go_num,fun j u hj hu=>?_,ZU.o,yq.o⟩;by_cases e:j=k
      ·subst e;rw[HUU.o] at hu;cases hu;exact fun h=>h.2 hln
      ·exact ed j u (by omega) hu
     case measure=>simp[intOf];omega
    ·have e2:(ub != L)=true:=by simpa using hln
     have HE:=aa (show r=([],false) by rw[← G6.o];exact afq C t k _ HM rfl HT HUU ⟨QV,by rw[nV.o];exact hln⟩);go_wp2_with fail;refine au (v:=.tuple #[.slice none 0 0,.bool false]) ⟨.slice none 0 0,by rw[HE.o],by rw[HE.o];exact .inl ⟨rfl,rfl⟩,yq⟩ ?_;simp[results,results137,go_sem]
  case neg=>
   obtain rfl:k=M:=by omega
   have Dj:=aa (QE.o C t HM HR rfl HT (fun j u hj h=>ed j u (by have:=(List.getElem?_eq_some_iff.1 hj).1;rw[rZ.o] at this;exact this) hj (by rw[nV.o] at h;exact h)));have r1:=ae HB ZZ.o;have z0:=HX.cell (j:=0) rfl;have Wo:=aa (Wn.o t _ wr HB (HU.keep (af HB)));obtain ⟨q,hq⟩:=aG (jD t xp (-1));rw[G6.o] at Dj
   try simp only at Dj
   rw[hq] at Dj Wo;clear hq;obtain ⟨t2,b⟩:=q
   try simp only at Dj Wo
   cases b with
   |false=>have HE:=aa (show r=([],false) by rw[Dj.o,if_neg (by simp)]);go_wp2_with (go_at_call 138;(refine Wo.o.mono ?_);(rintro e w7 ⟨v7,rfl,ho,hb⟩);have fw:=bh HB hb;clear ho hb);refine au (v:=.tuple #[.slice none 0 0,.bool false]) ⟨.slice none 0 0,by rw[HE.o],by rw[HE.o];exact .inl ⟨rfl,rfl⟩,fw⟩ ?_;simp[results,results137,go_sem]
   |true=>
    have HE:=aa (show r=(c.set C t2,true) by rw[Dj.o,if_pos rfl]);go_upto_region 13 with (first|(go_at_call 138;(with_reducible refine Wo.o.mono ?_);(rintro e w7 ⟨v7,rfl,ho,hb⟩);(obtain ⟨s6,hs6⟩:=(fj ho).sl);(unfold gY at hs6);(subst hs6);(have pP:=aa ho);(have fw:=bh HB hb);(have lj:=aa (HX.o.below hb));(have akF:=aa hb.size);(clear ho hb))|(go_at_call 77;(with_reducible refine (S7.o (by trivial) _ fw.o).mono ?_);(rintro e w8 ⟨g8,ZV,rs8,rfl,ht8,BH⟩);(have Fi:=aa ht8);(have gI:=bh fw BH);(have vS:=aa (lj.o.below BH));(have BZ:=aa (aL pP.o BH));(clear BH ht8)));obtain ⟨s0,hs0⟩:∃s,rs8[C]?=some s:=⟨_,List.getElem?_eq_getElem (by rw[Fi.o.1];exact qC)⟩
    have c0:w8.cell? ⟨g8,C,none⟩=some (gY s0):=by obtain ⟨h6,h7⟩:=List.getElem?_eq_some_iff.1 (eN lB rs8 C s0 0 (gY s0) hs0 rfl);have:=bG Fi.2.1 _ h6;rw[h7] at this;simpa using this
    have f0:=gj Fi.2.1 C;have zz:=vS.cell (j:=0) rfl;have ow:=aa (jG.set (i:=C) (s2:=s6) (l:=t2) (Fi.mono (Nat.le_trans HB.size akF)) (bz HB.size BZ) (fun j s hs hj=>by
     have UD:j<c.length:=by rw[HN.o,← Fi.o.1];exact (List.getElem?_eq_some_iff.1 hs).1
     have h:=Fi.2.2.1 j s _ hs (List.getElem?_eq_getElem UD);have h9:=rS pP h;exact ⟨h9.2,h9.1⟩) qC)
    have yC:=aa (gI.setCell (p:=⟨g8,C,none⟩) (Nat.le_trans fw.size (Fi.2.1.lt g8 rfl).1) (gY s6));unfold gY at c0 ow yC;have hc0:(0:Int)≤(C:Int):=by omega
    clear r1 z0 hs0;go_wp2_with fail;refine au (v:=.tuple #[.slice (some ⟨g8,0,none⟩) N ZV,.bool true]) ⟨_,by rw[HE.o],by rw[HE.o];exact .inr ⟨g8,ZV,_,by rw[List.length_set,HN.o],by rw[List.length_set,HN.o];exact ow⟩,yC⟩ ?_;simp[results,results137,go_sem]
theorem La (c:List (List aj)) (x:aB) (v1:Value) (w:World) (h1:dH w v1 c):Calls prog 85 #[v1,x.agg] w (fun e w'=>∃v,e=.returned (.tuple #[v,.bool (fM c x (-1)).2])∧mB w' w.heap.size v (fM c x (-1)).1∧Bw w w'):=by
 obtain ⟨W1,hW1⟩:=aG (w.alloc (.cells #[.int .i64 x.chunk,.int .i64 x.pos,.int .i64 x.size,.bool x.packed] 50));have hX1:aK W1 w.heap.size [.int .i64 x.chunk,.int .i64 x.pos,.int .i64 x.size,.bool x.packed]:=by rw[← hW1];exact aK.new w _ _
 have hB1:Bw w W1:=by rw[← hW1];exact ar
 have MF:=aa (K9 c x w.heap.size v1 W1 (h1.keep (af hB1)) (hX1.cell (j:=1) rfl));have aU:=aa hX1;have aY:=aa hB1;obtain ⟨p,cp,rfl,_⟩:=h1;obtain ⟨q,hq⟩:=aG (fM c x (-1));rw[hq] at MF ⊢;clear hq hX1 hB1;obtain ⟨xc,xp,xs,xk⟩:=x;unfold aB.agg at *;simp only at MF aU hW1 ⊢;have ee:=aa hW1;clear hW1;go_enter func85,ntmps85;go_upto_region 1 with fail;rw[ee.o];clear ee;obtain ⟨x0,x1,x2,x3⟩:=aU.four;go_wp2_with (go_at_call 137;(refine MF.o.mono ?_);(rintro e w2 ⟨v2,rfl,ho,hb⟩);(obtain ⟨p2,n2,c2,rfl⟩:=ho.sl);have HO:=aa ho;have HB:=bh aY hb;have HS:=aa (show w.heap.size≤W1.heap.size from aY.o.size);clear ho hb);refine au (v:=.tuple #[.slice p2 n2 c2,.bool q.2]) ⟨_,rfl,HO.mono HS,HB⟩ ?_;simp[results,results85,go_sem]
theorem Lh (x:List (List aj)) (v1:Value) (w:World) (h1:dH w v1 x) (hl:x.length≤1000) (S8:∀t∈x,t.length≤1000):Calls prog 72 #[v1] w fun e w'=>∃g cap rs,e=.returned (.slice (some ⟨g,0,none⟩) x.length cap)∧jG w' w.heap.size (.slice (some ⟨g,0,none⟩) x.length cap) x.length rs x∧Bw w w':=by
 obtain ⟨p,cp,rfl,a1,a2,ha⟩:=h1;have HA:=aa ha;have ZX:=aa S8;obtain ⟨N,hN⟩:=aG x.length;rw[hN] at a1 hl;rw[hN];have hlc:(N:Int)≤9223372036854775807:=by omega
 have HN:=aa hN;have rC:=aa hl;obtain ⟨w6,jJ,hrow,cV⟩:=X6 w N hl;have AQ:=aa hrow;have cU:=aa cV;clear ha hN a1 a2 hrow cV hl S8;go_enter func72,ntmps72;go_wp2_with fail;clear jJ;go_loopw [11,3,5] (fun i o _ wr=>∃(k:Nat) (g:Nat) (co:Nat) (rs:List vT),k≤N∧i=.int .i64 k∧o=.slice (some ⟨g,0,none⟩) k co∧jG wr w.heap.size o k rs x∧Bw w wr) (fun i _ _ _=>N-(intOf i).toNat)
 case atStart=>exact ⟨0,_,_,[],dO,rfl,rfl,⟨rfl,AQ,fun i s t hs=>by simp at hs,fun i j s s' _ hs=>by simp at hs⟩,cU⟩
 case round=>
  obtain ⟨k,gr,co,rs,hk,rfl,rfl,hrow,hb⟩:=hrel;have bU:=aa hrow;have HB:=aa hb;clear hrow hb;by_cases hlt:k<N
  case neg=>
   obtain rfl:k=N:=by omega
   go_wp2_with fail;go_ret;exact ⟨gr,co,rs,rfl,bU,HB⟩
  case pos=>
   have fN:(k:Int)<(N:Int):=(by omega);obtain ⟨s,hs⟩:=fx (l:=x) (k:=k) (by rw[HN.o];omega);obtain ⟨g,o,u1,rfl,x1,x2⟩:=HA.o k _ hs;obtain ⟨su,rfl⟩:=x2.sl;have wV:=uR (x2.keep (af HB));unfold gY at *;have r0:=ae HB x1;have eJ:=aa (kF su.1 su.2.1 su.2.2 (aI s) wr wV.2 (by have:=ZX.o s (List.mem_of_getElem? hs);omega));have yn:=aa wV.1;have HS:=aa hs;clear hs x1 x2 wV;go_wp2_with (first|(go_at_call 78;(with_reducible refine eJ.o.mono ?_);(rintro e w2 ⟨v2,rfl,ho,hb⟩);(obtain ⟨p2,c2,rfl⟩:=ez ho);(obtain ⟨g2,SP,w3,hrun,bY⟩:=A6 w2 w.heap.size k _ rs (p2,su.2.1,c2) (aL bU.o.2.1 hb) (by have:=rC.o;omega) (Nat.le_trans HB.o.size hb.size));(have dJ:=aa hrun);(have yD:=aa bY);(have nD:=aa ho);(have ZY:=aa (fun (v:Value) (n:Nat) (xs:List Value) (B:Nat) (h:wr.ownsRow B 52 4 v n xs)=>show eo v (gY (p2,su.2.1,c2))∧eo (gY (p2,su.2.1,c2)) v from rS h ho));(have Jq:=aa (fun (i:Nat) (s:vT) (t:List aj) (h1:rs[i]?=some s) (h2:x[i]?=some t)=>aL (bU.o.2.2.1 i s t h1 h2) hb));(have S9:=aa hb);(have dF:=aa (show Bw w w3 from (ak HB.o hb).trans bY.below));(clear hb hrun bY ho))|(at_builtin;refine Lib.wpList_append_run _ rfl _ _ _ _ rfl _ _ rfl rfl _ _ dJ.o ?_));go_roundw
   case rel=>
    refine ⟨k+1,_,_,rs++[(p2,su.2.1,c2)],by omega,by go_num,rfl,⟨by rw[List.length_append,bU.o.1];rfl,by rw[← fC];exact yD.o.row,fun i s' t nM ht=>?_,fun i j s1 s2 xz h1 h2=>?_⟩,dF.o⟩
    rotate_left
    ·exact A7 bU.1 bU.2.2.2 (fun i s' nM=>by
      have hi:=(List.getElem?_eq_some_iff.1 nM).1;rw[bU.o.1] at hi;have h:=bU.2.2.1 i s' _ nM (List.getElem?_eq_getElem (by rw[HN.o];omega));exact ZY _ _ _ _ h) i j s1 s2 xz h1 h2
    by_cases e:i<k
    ·rw[List.getElem?_append_left (by rw[bU.o.1];exact e)] at nM
     have h:=Jq.o i s' t nM ht;have hr2:=aL bU.2.1 (show Bw wr w2 from S9);exact (yD.others _ _ _ _ _ _ h (cP h hr2 (by decide))).1
    ·have hik:i=k:=by
      have:=(List.getElem?_eq_some_iff.1 nM).1;rw[List.length_append,bU.o.1] at this;simp at this;omega
     subst hik;rw[List.getElem?_append_right (by rw[bU.o.1];exact aT),bU.o.1,Nat.sub_self] at nM;simp only[List.getElem?_cons_zero,Option.some.injEq] at nM;subst nM;rw[HS.o] at ht;cases ht;have h:=bz HB.size nD.o;rw[yn.o] at h;have hr2:=aL bU.2.1 (show Bw wr w2 from S9);have h9:=(yD.others _ _ _ _ _ _ h (cP h hr2 (by decide))).1;unfold gY;simp only;rw[yn.o];exact h9
   case measure=>simp[intOf];omega
def tU (u v:aj):Bool:=u.1==v.1&&(u.2.1==v.2.1&&u.2.2.1==v.2.2.1)
theorem Lz (u v:aj) (w:World):Calls prog 67 #[.agg #[.int .i64 u.1,.int .i64 u.2.1,.int .i64 u.2.2.1,.bool u.2.2.2],.agg #[.int .i64 v.1,.int .i64 v.2.1,.int .i64 v.2.2.1,.bool v.2.2.2]] w fun e w'=>e=.returned (.bool (tU u v))∧Bw w w':=by
 obtain ⟨a,b,c,d⟩:=u;obtain ⟨x,y,z,q⟩:=v;simp only;obtain ⟨r,hr⟩:=aG (tU (a,b,c,d) (x,y,z,q));rw[hr];have HR:=aa hr;clear hr;obtain ⟨W1,hW1⟩:=aG (w.alloc (.cells #[.int .i64 a,.int .i64 b,.int .i64 c,.bool d] 52));obtain ⟨W2,hW2⟩:=aG (W1.alloc (.cells #[.int .i64 x,.int .i64 y,.int .i64 z,.bool q] 52));have hb1:Bw w W1:=by rw[← hW1];exact ar
 have hb2:Bw W1 W2:=by rw[← hW2];exact ar
 have YX:=aa (show aK W1 w.heap.size [.int .i64 a,.int .i64 b,.int .i64 c,.bool d] by rw[← hW1];exact aK.new w _ _);have CT:=aa (show aK W2 W1.heap.size [.int .i64 x,.int .i64 y,.int .i64 z,.bool q] by rw[← hW2];exact aK.new W1 _ _);have WM:=aa (YX.below hb2);have jl:=aa (ak hb1 hb2);clear hb1 hb2;go_enter func67,ntmps67;go_upto_region 1 with fail
 try rw[hW1]
 try rw[hW2]
 clear hW1 hW2;have q0:=WM.cell (j:=0) rfl;have q1:=WM.cell (j:=1) rfl;have q2:=WM.cell (j:=2) rfl;have s0:=CT.cell (j:=0) rfl;have s1:=CT.cell (j:=1) rfl;have s2:=CT.cell (j:=2) rfl;cases h1:(a==x) <;> cases h2:(b==y) <;> cases h3:(c==z)
 all_goals (go_wp2_with fail;go_ret;exact ⟨by rw[← HR.o];unfold tU;simp only[h1,h2,h3];rfl,jl.o⟩)
def sw:List aj→List aj→Bool
 |[],[]=>true
 |u::l,v::m=>tU u v&&sw l m
 |_,_=>false
theorem I3:∀ {l m:List aj},¬l.length=m.length→sw l m=false
 |[],[],h=>(h rfl).elim
 |[],_::_,_=>rfl
 |_::_,[],_=>rfl
 |u::l,v::m,h=>by unfold sw;rw[I3 (l:=l) (m:=m) (fun e=>h (by rw[List.length_cons,List.length_cons,e])),Bool.and_false]
theorem PF {m:List aj} {v:aj} (h:l[k]?=some u) (h2:m[k]?=some v):sw (l.drop k) (m.drop k)=(tU u v&&sw (l.drop (k+1)) (m.drop (k+1))):=by rw[List.drop_eq_getElem_cons (List.getElem?_eq_some_iff.1 h).1,(List.getElem?_eq_some_iff.1 h).2,List.drop_eq_getElem_cons (List.getElem?_eq_some_iff.1 h2).1,(List.getElem?_eq_some_iff.1 h2).2];rfl
theorem LD (l m:List aj) (v1 v2:Value) (w:World) (h1:dA w v1 l) (h2:dA w v2 m):Calls prog 65 #[v1,v2,.func (.func 67) #[] #[]] w fun e w'=>e=.returned (.bool (sw l m))∧Bw w w':=by
 obtain ⟨p,cp,rfl,a1,a2,ha⟩:=h1;obtain ⟨p2,Vz,rfl,b1,b2,hb⟩:=h2;have HA:=aa ha;have Fl:=aa hb;obtain ⟨N,hN⟩:=aG l.length;obtain ⟨M,hM⟩:=aG m.length;rw[hN] at a1;rw[hM] at b1;rw[hN,hM];have hlc:=fG (n:=N) a2;have Ys:=fG (n:=M) b2;have HN:=aa hN;have HM:=aa hM;obtain ⟨r,hr⟩:=aG (sw l m);rw[hr];have HR:=aa hr;by_cases hnm:N=M
 case neg=>
  have HF:=aa (show r=false by rw[← hr];exact I3 (by rw[hN,hM];exact hnm));have hne:decide ((N:Int)=(M:Int))=false:=by simp;omega
  clear ha hb hN hM hr;go_enter func65,ntmps65;go_wp2_with fail;go_ret;exact ⟨by rw[HF.o];rfl,aH⟩
 case pos=>
 subst hnm;clear ha hb hN hM hr;go_enter func65,ntmps65;go_wp2_with fail;go_loopw [17,7] (fun i _ wr=>∃k:Nat,k≤N∧i=.int .i64 k∧sw (l.drop k) (m.drop k)=r∧Bw w wr) (fun i _ _=>N-(intOf i).toNat)
 case atStart=>exact ⟨0,dO,rfl,by rw[List.drop_zero,List.drop_zero];exact HR,aH⟩
 case round=>
  obtain ⟨k,hk,rfl,hall,hb⟩:=hrel;have ed:=aa hall;have HB:=aa hb;clear hall hb;by_cases hlt:k<N
  case neg=>
   obtain rfl:k=N:=by omega
   have HF:=aa (show r=true by rw[← ed.o,List.drop_of_length_le (by rw[HN.o];exact aT),List.drop_of_length_le (by rw[HM.o];exact aT)];rfl);go_wp2_with fail;go_ret;exact ⟨by rw[HF.o];rfl,HB⟩
  case pos=>
   have fN:(k:Int)<(N:Int):=(by omega);obtain ⟨⟨a,b,c,d⟩,hs⟩:∃s,l[k]?=some s:=⟨_,List.getElem?_eq_getElem (by rw[HN.o];omega)⟩
   obtain ⟨⟨a',b',c',d'⟩,hs2⟩:∃s,m[k]?=some s:=⟨_,List.getElem?_eq_getElem (by rw[HM.o];omega)⟩
   obtain ⟨g,o,rfl,x1⟩:=HA.o k _ hs;obtain ⟨g2,o2,rfl,x2⟩:=Fl.o k _ hs2;have dV:=aa x2;obtain ⟨r0,r1,r2,r3⟩:=x1.keep (af HB);simp only at r0 r1 r2 r3;have fX:=aa (PF hs hs2);clear hs x1 hs2 x2;obtain ⟨bq,yA⟩:∃q,tU (a,b,c,d) (a',b',c',d')=q:=⟨_,rfl⟩
   have vF:=aa yA;clear yA;have sA:=aa (Lz (a,b,c,d) (a',b',c',d'));obtain ⟨W1,hW1⟩:=aG (wr.alloc (.cells #[.int .i64 a,.int .i64 b,.int .i64 c,.bool d] 52));obtain ⟨W2,hW2⟩:=aG (W1.alloc (.cells #[.int .i64 a',.int .i64 b',.int .i64 c',.bool d'] 52));have hb1:Bw wr W1:=by rw[← hW1];exact ar
   have hb2:Bw W1 W2:=by rw[← hW2];exact ar
   have YX:=aa (show aK W1 wr.heap.size [.int .i64 a,.int .i64 b,.int .i64 c,.bool d] by rw[← hW1];exact aK.new wr _ _);have CT:=aa (show aK W2 W1.heap.size [.int .i64 a',.int .i64 b',.int .i64 c',.bool d'] by rw[← hW2];exact aK.new W1 _ _);have WM:=aa (YX.below hb2);have aY:=bh HB hb1;have bS:=bh aY hb2;have ee:=aa hW1;have Xl:=aa hW2;clear hb1 hb2 hW1 hW2;go_upto_region 6 with fail;rw[ee.o];clear r0 r1 r2 r3;obtain ⟨r0,r1,r2,r3⟩:=dV.keep (af aY);simp only at r0 r1 r2 r3;go_upto_region 7 with fail;rw[Xl.o];clear r0 r1 r2 r3;obtain ⟨r0,r1,r2,r3⟩:=WM.four;obtain ⟨s0,s1,s2,s3⟩:=CT.four;cases bq with
   |true=>
    have HF:=aa (show sw (l.drop (k+1)) (m.drop (k+1))=r by rw[← ed.o,fX.o,vF.o,Bool.true_and]);go_wp2_with (go_at_call 67;(refine (sA.o _).mono ?_);rintro e w2 ⟨rfl,hb⟩;rw[vF.o];have dF:=bh bS hb;clear hb);go_roundw
    case rel=>exact ⟨k+1,by omega,by go_num,HF.o,dF.o⟩
    case measure=>simp[intOf];omega
   |false=>have HF:=aa (show r=false by rw[← ed.o,fX.o,vF.o,Bool.false_and]);go_wp2_with (go_at_call 67;(refine (sA.o _).mono ?_);rintro e w2 ⟨rfl,hb⟩;rw[vF.o];have dF:=bh bS hb;clear hb);go_ret;exact ⟨by rw[HF.o];rfl,dF⟩
end Go.Proofs.YtbigkioechkngaaGreat
