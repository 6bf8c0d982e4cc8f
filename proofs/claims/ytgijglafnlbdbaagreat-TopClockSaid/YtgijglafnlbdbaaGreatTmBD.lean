import Derived.Test.YtgijglafnlbdbaaGreatTmBC
set_option linter.all false
set_option maxHeartbeats 8000000
set_option maxRecDepth 8000
namespace Go.Proofs.YtgijglafnlbdbaaGreat
open RowKit Shelf Proofs.Tryz
open Go renaming World->aj,Value->aC,Calls->aL
section
open Go.RowKit Go.Shelf Go.Maps Go.ChangeShapes
attribute [local irreducible] Oper.wp
theorem KI(w:aj)(ety:TypeId)(k n:Nat)(xs:List aC)(hl:xs.length=n*k)(hn:n<=1000):(w.alloc (.cells xs.toArray ety)).ownsRow 0 ety k (.slice (some ⟨w.heap.size,0,none⟩) n n) n xs:=
 ⟨hl,.inr ⟨w.heap.size,n,xs.toArray,rfl,cK _,heap_alloc_new w _,aM _,by unfold maxLen;omega,by simpa using hl,by simp[<-hl]⟩⟩
theorem To{w:aj}{base:Nat}{e:TypeId}{k n:Nat}{v:aC}{xs:List aC}(h:w.ownsRow base e k v n xs):w.ownsRow 0 e k v n xs:=by
 refine⟨h.1,?_⟩;rcases h.2 with h|⟨g,cap,cur,h1,h2,h3⟩
 ·exact .inl h
 ·exact .inr ⟨g,cap,cur,h1,cK _,h3⟩
theorem nU.lt{w:aj}{b n:Nat}{tr:List Tr}{l:aE}{D:DataW Unit}(h:nU w b n tr l D):b<w.heap.size:=by
 obtain⟨es,clock,hb,_⟩:=h.o;exact(wh.1 hb).1
theorem Eg{T:Nat->Prop}{w:aj}{Q:Pg}{tr:List Tr}{pv cz wv rv:aC}{n:Nat}{ms:Nat->List Mo}{wt:Nat->Nat}(hp:tL Q)(hx:L5 Q tr n ms wt)(Ml:n<=8)(h:iC T w Q tr pv cz wv rv)(hn:tr.length<=1000):aL prog 25 #[UR pv cz wv rv] w (Vn w n ms wt):=by
 obtain⟨i0,hi0,ie,gU,iw⟩:=xj;obtain⟨ta,tc,qx,jG⟩:=h.t.get;obtain⟨wa,wc,vy,GF⟩:=h.ws;have pz:=af (λv=>RC hx v);obtain⟨L,hL⟩:=au (iz tr tr.length)
 have Nt:∀k∈L,k<tr.length/\1<=(tr.getD k aK).bt/\(tr.getD k aK).bt<=8:=λk hk=>by
  rw[<-hL] at hk;obtain⟨h1,h2⟩:=qt.1 hk;have h3:=(hx.w2 k h1 h2).1;unfold lh at h2;simp only[wj,decide_eq_true_eq] at h2;exact⟨h1,h2.2,by omega⟩
 have Wd:L.length<=1000:=by rw[<-hL];exact fH (vg _ _) hn
 rw[hL] at vy GF;simp only[hL] at pz;have uu:(qy L).length=L.length:=List.length_map _;rw[uu] at vy GF;obtain⟨NT,yy⟩:=au tr.length;have aap:NT<=1000:=by omega
 obtain⟨NL,Gj⟩:=au L.length
 have hg:Hid (∀i,i<NL->∃g o g2 o2 k,L.getD i 0=k/\k<NT/\1<=(tr.getD k aK).bt/\(tr.getD k aK).bt<=8/\wa=some ⟨g,o,none⟩/\ta=some ⟨g2,o2,none⟩/\∀W,Calm w W->W.cell? ⟨g,o+i,none⟩=some (vI ((k:Nat):Int))/\W.cell? ⟨g2,o2+k*10+9,none⟩=some (vI (tr.getD k aK).bt)):=λi hi=>by
  obtain⟨g,o,e1,_,h1⟩:=GF i (by omega);rw[DF (by omega)] at h1;obtain⟨hk,gI,lT⟩:=Nt _ (get_mem 0 (show i<L.length by omega));obtain⟨g2,o2,av,tv,e2,h2,_⟩:=jG _ hk;exact⟨g,o,g2,o2,_,rfl,by omega,gI,lT,e1,e2,λW c=>⟨c.cellAt h1 id,h2 W c 9 _ rfl⟩⟩
 have Y6:Hid (∀k,k<NT->∃g2 o2,ta=some ⟨g2,o2,none⟩/\∀W,Calm w W->W.cell? ⟨g2,o2+k*10+5,none⟩=some (vI (tr.getD k aK).dr)):=λk hk=>by
  obtain⟨g2,o2,av,tv,e2,h2,_⟩:=jG k (by omega);exact⟨g2,o2,e2,λW c=>h2 W c 5 _ rfl⟩
 rw[yy] at qx;rw[Gj] at vy Wd;have qb:=af (λW (c:Calm w W)=>h.calm c);have Di:=af hp;have yU:=af hx;have H6:=af hn;subst qx vy;have abx:=af Nt;clear GF jG uu h hp hx Nt;replace yy:=af yy;replace Gj:=af Gj;replace hL:=af hL;obtain⟨W1,e1,k1,o1,z1⟩:=dy w [pv,.slice ta NT tc,.slice wa NL wc,rv,.slice none 0 0,.slice none 0 0] 81;have yx:=nU.made W1 tr;have kM:Calm W1 (W1.alloc (.map #[] 0)):=aq.alloc _;rw[z1] at yx;have Qz:=o1.calm kM;have y1:=(Qz 1 _ rfl).1;have y2:=(Qz 2 _ rfl).1;have EO:=@run_makeMap prog;go_in;go_upto_region 2 with fail
 obtain⟨W2,iA⟩:=au (W1.alloc (.map #[] 0));rw[iA] at yx kM y1 y2 ⊢;have um:Hid (∃D,nU W2 (w.heap.size+1) 0 tr (L.take 0) D/\Calm W1 W2):=⟨_,yx,kM⟩;clear yx kM Qz iA EO;go_wp2_with fail
 go_loopw [18] (λz wr=>∃i:Nat,i<=NL/\z=vI i/\∃D,nU wr (w.heap.size+1) i tr (L.take i) D/\Calm W1 wr) (λz _=>NL-(intOf z).toNat)
 case atStart=>exact⟨0,by omega,rfl,um.out⟩
 case round=>
  obtain⟨i,hi,rfl,D,hG,hc⟩:=hrel;clear um y1 y2;have y1:=(o1.calm hc 1 _ rfl).1
  by_cases aZ:i<NL
  ·obtain⟨g,o,g2,o2,k,hk,Mk,yT,eC,rfl,rfl,hcell⟩:=hg.out i aZ;obtain⟨x0,x1⟩:=hcell wr (k1.trans hc);obtain⟨bt,SH⟩:=au ((tr.getD k aK).bt);rw[SH] at x1 yT eC;have hI:cL bt:=⟨by omega,by omega⟩;have hkI:cL (k:Int):=⟨by omega,by omega⟩;have cy:L.take (i+1)=L.take i++[k]:=by rw[iW (by rw[Gj.out];exact aZ) 0,hk]
   have kA:Calm wr (wr.alloc (.cells #[vI (k:Int)] 3)):=aq.alloc _;have V9:=hG.lt;have UC:=af hG.o;have Ur:=af (hG.k bt);have hG':=af hG;have Nz:=af hc;have aaT:=af cy;have Xx:=af SH;clear hG hc hcell hk cy SH
   go_wp2_with (first
    | (at_lookup;go_must (refine wpList_lookup_groups _ rfl _ _ 124 rfl 3 43 3 .i64 XK Tryz.underlying124 (FG _) ((w.heap.size+1)+1) (w.heap.size+1) i D rfl UC.out (by unfold maxLen;omega) (vI bt) (.int .i64 bt) rfl (J7 hI) ?_);intro vv zs kE JL hzl wY;have hzs:zs=qy (mb tr (L.take i) bt):=AE JL (Ur.out.symm.trans kE);replace wY:=af wY;replace JL:=af JL;clear kE UC)
    | (
     at_builtin
     go_must (refine wpList_append_own_at _ rfl _ _ 43 rfl ((w.heap.size+1)+1) 3 i0 (vI 0) 1 8 Tryz.underlying43 hi0 ie gU iw rfl (by decide) vv zs.length (zs.map (Value.int .i64)) rfl (JL.out.1.alloc _) ⟨wr.heap.size,0,none⟩ 1 1 [vI (k:Int)] rfl rfl (cell_one_new _ _ _) (by simp[Value.oneCell']) (by unfold maxLen;omega) (by omega) (by have:=V9;have:=kA.size;omega) ?_)
     intro v' w7 ju eU Dg m_;have HG:wr.grownBy w7 vv.ownBlock:=World.grownBy.trans (FB (kA.mono λ_ _ e=>e.elim)) eU;have HO:=JL.out.appended ju (WalkArith.wf_i64 (show -9223372036854775808<=(k:Int)/\(k:Int)<=9223372036854775807 by omega));have HL:(zs++[(k:Int)]).length<=i+1:=by rw[cX];exact Nat.succ_le_succ hzl
     have HC:v'.ownBlock=vv.ownBlock\/∃g,v'.ownBlock=some g/\wr.heap.size<=g:=by
      rcases m_ with e|e
      ·exact .inl e
      ·exact .inr ⟨_,e,by simp⟩
     have AP:Calm W1 w7:=(Nz.out.trans kA).grown eU (λj hj=>.inr (by have:=(JL.out.1.lt j hj).1;omega));replace HG:=af HG;replace HO:=af HO;replace HL:=af HL;replace HC:=af HC;replace AP:=af AP
     clear ju eU Dg m_ JL)
    | (
     at_mapUpdate
     go_must (refine wpList_mapUpdate_back _ rfl _ _ _ 124 rfl wY.out rfl rfl rfl HG.out HO.out HL.out HC.out ?_)
     intro w8 ET Jz
     have hF:Hid (∃D,nU w8 (w.heap.size+1) (i+1) tr (L.take (i+1)) D/\Calm W1 w8):=by
      have Z2:=HO.out;rw[hzs] at ET Z2;rw[<-Xx.out] at ET Z2;rw[aaT.out];exact⟨_,nU.put hG'.out rfl ET Z2,AP.out.grown Jz (λj hj=>.inr (by injection hj with hj;omega))⟩
     clear wY HG HO HL HC AP ET Jz))
   exact⟨⟨i+1,by omega,by simp,hF.out⟩,by simp[intOf] <;> omega⟩
  ·obtain rfl:i=NL:=by omega
   have jL:decide ((i:Int)<i)=false:=decide_eq_false (by omega);rw[List.take_of_length_le (by have:=Gj.out;omega)] at hG;obtain⟨W3,yA⟩:∃W3,W3=wr:=⟨_,rfl⟩;subst yA;have Cy:=o1.calm hc;have y4:=(Cy 4 _ rfl).1;have k3:=k1.trans hc;obtain⟨W4,e4,k4,o4,z4⟩:=dy W3 [.slice none 0 0,.slice none 0 0] 92;obtain⟨W5,e5,k5,o5,z5⟩:=dy W4 [vI (-1)] 3
   have Ut:Hid (Uc W3 tr ms wt 0 (.slice (some ⟨W3.heap.size,0,none⟩) 1 1) (.slice (some ⟨W3.heap.size+1,0,none⟩) 1 1) (vI (-1)) W5):=by
    have r4:=KI W3 92 2 1 [.slice none 0 0,.slice none 0 0] rfl (by decide);rw[e4] at r4;have d5:=bm.lit W4 0 [-1] (cK _) (by decide);rw[show(lu [-1]).toArray=([vI (-1)]:List aC).toArray from rfl,e5,z4] at d5;refine⟨[(.slice none 0 0,[])],rfl,⟨k4.trans k5,az r4 k5 (λ_ _=>id),d5,λb hb=>?_,λb hb=>⟨?_,λe=>?_⟩,λj hj=>⟨none,0,?_,λq hq=>?_⟩⟩,λj hj=>?_,rfl⟩
    ·obtain rfl:=aB.fg hb;exact aM _
    ·obtain rfl:=aB.fg hb;omega
    ·have h1:=aB.fg hb;have h2:=aB.fg e;omega
    ·obtain rfl:j=0:=by simpa using hj
     rfl
    ·obtain rfl:j=0:=by simpa using hj
     exact absurd hq (Nat.not_lt_zero q)
    ·obtain rfl:j=0:=by omega
     exact yU.out.m0.symm
   have hG:=af hG;clear o4 o5 k4 k5 hc;go_wp2_with (at_builtin;refine mJ Ry rfl _ _ rfl rfl none 0 rfl ?_)
   go_loopw [8,9,10] (λs8 s9 Yp wz=>∃u:Nat,u<=n/\Uc W3 tr ms wt u s8 s9 Yp wz) (λs8 _ _ _=>n+2-QM s8)
   case atStart=>exact⟨0,by omega,Ut.out⟩
   case round=>
    clear Ut e4 e5 e1 y1 y4;obtain⟨u,hu,us,h1,h2,h3,rfl⟩:=hrel;have JS:Hid (Uc W3 tr ms wt u u8 u9 (vI (MB tr wt u)) wr):=⟨us,h1,h2,h3,rfl⟩;obtain⟨gm,cm,rfl,Uy⟩:=bz (f:=XJ) (k:=2) (λ_=>rfl) (by decide) h2.r PY (i:=u) (by omega);obtain⟨da,dc,Wy⟩:=h2.d.slice;rw[qg] at Wy;subst Wy;rw[h1];have kz:=k3.trans h2.c;have op:=Cy.calm h2.c;have YY:=(hG.out.calm h2.c);have hgr:=af YY.o;have Ur:=af (YY.k ((u+1:Nat):Int));have V9:=YY.lt;have hIu:cL ((u:Int)+1):=⟨by omega,by omega⟩;obtain⟨G,hGG⟩:=au (mb tr L ((u+1:Nat):Int));have Us:=pz.out (u+1);rw[hGG] at Ur Us;have jb:(((u+1:Nat):Int))=(u:Int)+1:=by push_cast;rfl
    rw[jb] at Ur
    have hb:∀lv base,World.ownsInts wr base 3 .i64 lv (qy G)->aL prog 48 #[UR pv (.slice ta NT tc) (.slice wa i wc) rv,lv,vI (MB tr wt u)] wr (λe w'=>e=.returned (vI (MV tr G (MB tr wt u)))/\Calm wr w'):=λlv base ho=>by
     have hor:bm wr 0 lv (qy G):=by
      have:=ho.1;unfold bm;exact To this
     refine Ga (qb.out wr kz) (hor.ints (T:=allT) λ_ _=>trivial) (λq hq=>?_) ?_ hn (MB tr wt u)
     ·rw[Us] at hq;split at hq
      ·rename_i h9;rw[nu.1 hq];exact(yU.out.w1 (u+1) h9.1 h9.2).1
      ·cases hq
     ·rw[Us];split <;> simp
    have EG:=af hb;have abv:=af hGG;clear hb hGG YY jb;obtain⟨p0,p1,p2,p3,p4,p5⟩:=ag.t_ op;have aaD:=af Uy;have YW:=af h2;have Nq:=af h1;have Um:=af h3;clear h2 h1 h3 Uy
    go_wp2_with (
     at_lookup
     go_must (refine wpList_lookup_groups _ rfl _ _ 124 rfl 3 43 3 .i64 XK Tryz.underlying124 (FG _) (w.heap.size+1+1) (w.heap.size+1) i D rfl hgr.out (by unfold maxLen;omega) (vI ((u:Int)+1)) (.int .i64 ((u:Int)+1)) (by kernel_rfl) (J7 hIu) ?_)
     intro lv zs kE JL hzl wY;have hzs:zs=qy G:=AE JL (Ur.out.symm.trans kE);subst hzs;have ob:=EG.out lv _ JL
     clear kE hgr wY JL)
    refine ob.mono ?_;rintro en wb ⟨rfl,kb⟩;clear ob EG Ur
    by_cases nM:u<n
    ·have vJ:G=[wt (u+1)]:=by rw[Us,if_pos ⟨by omega,by omega⟩]
     obtain⟨g1,g2,g3,g4,RX,g5⟩:=yU.out.w1 (u+1) (by omega) (by omega)
     have UI:MB tr wt u<(tr.getD (wt (u+1)) aK).dr:=by
      unfold MB;split
      ·exact g4
      ·exact yU.out.w3 u (u+1) (by omega) (by omega) (by omega)
     have hr:MV tr G (MB tr wt u)=(wt (u+1):Int):=by rw[vJ];unfold MV;rw[if_pos UI]
     rw[hr];obtain⟨k,hk⟩:=au (wt (u+1));rw[hk] at g1 g2 g3 g4 g5 ⊢;have Mk:k<NT:=by rw[<-yy.out];exact g1
     have ic:decide ((k:Int)<0)=false:=decide_eq_false (by omega);have V8:=af hk;rw[Nat.add_sub_cancel] at g5;obtain⟨us1,JZ⟩:=au (us.getD u PY);obtain⟨vu,XN⟩:=us1;obtain⟨TM,Gs⟩:∃TM,bL TM wr vu XN:=⟨_,by have:=YW.out.m u (by rw[Nq.out];omega);rw[JZ] at this;exact this⟩;have EO:XN.map (·.x)=ms u:=by have:=Um.out u (aM _);rw[JZ] at this;exact this
     obtain⟨sz1,sz2⟩:=yU.out.sml Di.out u hu;have Qf:XN.length<=800:=by have:=congrArg List.length EO;rw[List.length_map] at this;omega
     have tF:=af (λW (c:Calm wr W)=>Cl Di.out yU.out (qb.out W (kz.trans c)) hn (Gs.calm c) g1 Qf (by rw[EO];exact sz2) (by rw[EO];exact g5))
     have pu:∀w',Calm wb w'->w'.cell? ⟨gm,u*2,none⟩=some vu/\w'.cell? ⟨gm,u*2+1,none⟩=some (.slice none 0 0):=λw' c=>by
      have a0:=(aaD.out 0 _ rfl).1;have a1:=(aaD.out 1 _ rfl).1;rw[JZ] at a0;exact⟨(kb.trans c).cellAt a0 id,(kb.trans c).cellAt a1 id⟩
     have pa:∀w',Calm wb w'->w'.cell? ⟨w.heap.size,0,none⟩=some pv/\w'.cell? ⟨w.heap.size,1,none⟩=some (.slice ta NT tc)/\w'.cell? ⟨w.heap.size,2,none⟩=some (.slice wa i wc)/\w'.cell? ⟨w.heap.size,3,none⟩=some rv/\w'.cell? ⟨w.heap.size,4,none⟩=some (.slice none 0 0)/\w'.cell? ⟨w.heap.size,5,none⟩=some (.slice none 0 0):=λw' c=>⟨(kb.trans c).cellAt p0 id,(kb.trans c).cellAt p1 id,(kb.trans c).cellAt p2 id,(kb.trans c).cellAt p3 id,(kb.trans c).cellAt p4 id,(kb.trans c).cellAt p5 id⟩;replace JZ:=af JZ;replace EO:=af EO;have jc:=af pa;clear g1 g2 g3 g4 g5 UI hr vJ hk Gs sz1 sz2 Qf p0 p1 p2 p3 p4 p5;go_upto_region 14 with fail
     go_cut [12,13] (λs12 s13 wx=>∃B a9 n9 c9 ms',s12 = aR B/\s13=.bool true/\ag wx B [.slice a9 n9 c9,.slice none 0 0]/\(ms':List fW).map (·.x)=ms (u+1)/\bL (λb=>wb.heap.size<=b/\b≠B) wx (.slice a9 n9 c9) ms'/\Calm wb wx)
     case first=>
      have kd:Calm wb wb.drew:=aq.drew;refine d_ (Way.reads [0,1,2,3,4,5,6,7] (.any (.alt 8 (Way.reads [9,10,11] (.step 12 (.step 13 (.step 14 .fin)))) (.alt 12 (.step 8 (Way.reads [9,10,11] (.step 13 (.step 14 .fin)))) .stop)))) (λw'=>Calm wb w') (by kernel_rfl) (by kernel_rfl) kd ?_;refine ay (.agg #[pv,.slice ta NT tc,.slice wa i wc,rv,.slice none 0 0,.slice none 0 0]) rfl rfl (λw' hw'=>?_) ai ?_
      ·obtain⟨f0,f1,f2,f3,f4,f5⟩:=pa w' hw';simp[go_sem,f0,f1,f2,f3,f4,f5]
      refine ay (.slice (some ⟨gm,0,none⟩) (u+1) cm) rfl rfl (λw' hw'=>?_) ai ?_
      ·simp[go_sem]
      refine ay (.slice (some ⟨gm,0,none⟩) (u+1) cm) rfl rfl (λw' hw'=>?_) ai ?_
      ·simp[go_sem]
      refine ay (vI ((u:Int)+1)) rfl rfl (λw' hw'=>?_) ai ?_
      ·simp[go_sem]
      refine ay (vI (u:Int)) rfl rfl (λw' hw'=>?_) ai ?_
      ·simp[go_sem];exact IntWalk.i64_in _ ⟨by omega,by omega⟩
      refine ay (.pointer (some ⟨gm,u*2,none⟩)) rfl rfl (λw' hw'=>?_) ai ?_
      ·simp[go_sem];intro h;omega
      refine ay (.agg #[vu,.slice none 0 0]) rfl rfl (λw' hw'=>?_) ai ?_
      ·obtain⟨f0,f1⟩:=pu w' hw';simp[go_sem,f0,f1]
      refine ay (vI (k:Int)) rfl rfl (λw' hw'=>?_) ai ?_
      ·simp[go_sem]
      refine eX ?_;refine bC rfl rfl ?_ (bC rfl rfl ?_ dI)
      ·have o9:=tF.out _ (kb.trans kd);go_wp2_with fail
       refine o9.mono ?_;rintro PZ w9 ⟨v',ms',rfl,oL,oz,k9⟩;obtain⟨a9,c9,pF,-⟩:=id oz;obtain⟨n9,jo⟩:=au ms'.length;rw[jo] at pF;subst pF;have Dy:Calm wb w9:=kd.trans k9;refine⟨Dy,?_⟩;refine ay (.tuple #[.agg #[.slice a9 n9 c9,.slice none 0 0],.bool true]) rfl rfl (λw' hw'=>?_) ai ?_
       ·simp[go_sem]
       refine ay (.agg #[.slice a9 n9 c9,.slice none 0 0]) rfl rfl (λw' hw'=>?_) ai ?_
       ·simp[go_sem]
       refine ay (.bool true) rfl rfl (λw' hw'=>?_) ai ?_
       ·simp[go_sem]
       refine aI rfl rfl ?_;refine im w9 rfl fP ?_;intro uZ E0 Ku;refine⟨Dy.trans E0,?_⟩;refine aI rfl rfl ?_;refine aN _ _ _ rfl w9.heap.size #[.slice a9 n9 c9,.slice none 0 0] (by kernel_rfl) (by kernel_rfl) Ku rfl (by kernel_rfl) (by simp[Value.oneCell']) ?_;intro CB t12 f11;have zV:Calm wb CB:=(Dy.trans E0).join f11 (λj hj e=>by have h9:=Dy.size;have e:j=w9.heap.size:=e;omega);refine⟨zV,?_⟩;refine aI rfl rfl ?_;unfold Oper.wp;go_simp
       first|refine⟨zV,?_⟩|skip
       refine cg ?_
       try go_simp
       go_wp2_with fail
       go_meet;exact⟨w9.heap.size,a9,n9,c9,ms',rfl,rfl,t12,oL,((oz.mono (T':=λb=>wb.heap.size<=b/\b≠w9.heap.size) (λb hb e=>⟨e,by omega⟩)).calm E0).fr f11 (λb hb e=>hb.2 e),zV⟩
      ·refine im wb.drew rfl fP ?_;intro uZ E0 Ku;have kA:=kd.trans E0;refine⟨kA,?_⟩;refine aI rfl rfl ?_;have o9:=tF.out uZ (kb.trans kA);go_wp2_with fail
       refine o9.mono ?_;rintro PZ w9 ⟨v',ms',rfl,oL,oz,k9⟩;obtain⟨a9,c9,pF,-⟩:=id oz;obtain⟨n9,jo⟩:=au ms'.length;rw[jo] at pF;subst pF;have Dy:Calm wb w9:=kA.trans k9;have sW:=Ku.lt (by simp);refine⟨Dy,?_⟩;refine ay (.tuple #[.agg #[.slice a9 n9 c9,.slice none 0 0],.bool true]) rfl rfl (λw' hw'=>?_) ai ?_
       ·simp[go_sem]
       refine ay (.agg #[.slice a9 n9 c9,.slice none 0 0]) rfl rfl (λw' hw'=>?_) ai ?_
       ·simp[go_sem]
       refine ay (.bool true) rfl rfl (λw' hw'=>?_) ai ?_
       ·simp[go_sem]
       refine aI rfl rfl ?_;refine aN _ _ _ rfl wb.drew.heap.size #[.slice a9 n9 c9,.slice none 0 0] (by kernel_rfl) (by kernel_rfl) (Ku.calm k9) rfl (by kernel_rfl) (by simp[Value.oneCell']) ?_;intro CB t12 f11;have zV:Calm wb CB:=Dy.join f11 (λj hj e=>by have e:j=wb.heap.size:=e;omega);refine⟨zV,?_⟩;refine aI rfl rfl ?_;unfold Oper.wp;go_simp
       first|refine⟨zV,?_⟩|skip
       refine cg ?_
       try go_simp
       go_wp2_with fail
       go_meet;exact⟨wb.drew.heap.size,a9,n9,c9,ms',rfl,rfl,t12,oL,(oz.mono (T':=λb=>wb.heap.size<=b/\b≠wb.drew.heap.size) (λb hb e=>⟨by have e:uZ.heap.size<=b:=e;have:=kA.size;omega,by have e:uZ.heap.size<=b:=e;omega⟩)).fr f11 (λb hb e=>hb.2 e),zV⟩
     case rest=>
      obtain⟨B,a9,n9,c9,ms',rfl,rfl,Ku,oL,oz,kc⟩:=hcut;have kbc:=kb.trans kc;have h2c:=YW.out.calm kbc;have Qf:=(World.ownsRow.lt YW.out.r);have NV:=(λb (hb:aB (.slice da (u+1) dc) b)=>(YW.out.d.lt hb).2);have AI:bL (λb=>¬aB (.slice (some ⟨gm,0,none⟩) us.length cm) b/\¬aB (.slice da (u+1) dc) b) wc (.slice a9 n9 c9) ms':=oz.mono (λb _ hb=>⟨λe=>by have h8:=(Qf b e).2;have h9:=kb.size;have h7:=hb.1;omega,λe=>by have h8:=NV b e;have h9:=kb.size;have h7:=hb.1;omega⟩);clear tF pu jc pa Qf NV oz kc;obtain⟨q0,q1⟩:=ag.lF Ku;have kI:Calm wc (wc.alloc (.cells #[.slice a9 n9 c9,.slice none 0 0] 92)):=aq.alloc _;have Lh:=az h2c.r kI (λ_ _=>id);rw[Nq.out] at Lh;have Lh:=af Lh
      have cy:Hid (∀g c w7,w7.ownsRow 0 92 2 (.slice (some ⟨g,0,none⟩) (u+1+1) c) (u+1+1) (us.flatMap XJ++[.slice a9 n9 c9,.slice none 0 0])->Fr (aB (.slice (some ⟨gm,0,none⟩) (u+1) cm)) (wc.alloc (.cells #[.slice a9 n9 c9,.slice none 0 0] 92)) w7->(aB (.slice (some ⟨gm,0,none⟩) (u+1) cm) g\/g=(wc.alloc (.cells #[.slice a9 n9 c9,.slice none 0 0] 92)).heap.size)->Hv W3 w7 (us++[(.slice a9 n9 c9,ms')]) (.slice (some ⟨g,0,none⟩) (u+1+1) c) (.slice da (u+1) dc) (Fb wt u)):=λg c w7 hr f hg=>by
       have h9:=h2c.calm kI;rw[Nq.out] at h9 AI
       exact h9.more (AI.calm kI) (by rw[Nq.out];exact hr) f (λb hb=>by
        obtain rfl:=aB.fg hb;rcases hg with e|e
        ·exact .inl e
        ·exact .inr (Nat.le_of_eq e.symm))
      clear h2c AI Ku kI
      go_upto_region 18 with (
       at_builtin
       go_must (refine gy aah rfl _ _ rfl (.slice (some ⟨gm,0,none⟩) (u+1) cm) (u+1) _ Lh.out rfl [.slice a9 n9 c9,.slice none 0 0] rfl (by simp[Value.oneCell']) ⟨wc.heap.size,0,none⟩ 1 rfl (λj v hj=>by rw[cT];simp only[fk];exact gW wc _ _ _ hj) (by omega) ?_)
       intro g7 c7 w7 Cu f7 Db;have mg:=cy.out g7 c7 w7 Cu f7 Db
       clear cy Cu f7 Db Lh q0 q1)
      have kJ:Calm w7 (w7.alloc (.cells #[vI (k:Int)] 3)):=aq.alloc _;have Li:=az mg.d kJ (λ_ _=>id);rw[qg] at Li;have Li:=af Li;have Wf:=af mg;clear mg
      go_upto_region 19 with (
       at_builtin
       go_must (refine gy VW rfl _ _ rfl (.slice da (u+1) dc) (u+1) _ Li.out rfl [vI (k:Int)] rfl (by simp[Value.oneCell']) ⟨w7.heap.size,0,none⟩ 1 rfl (cell_one_new _ _ _) (by omega) ?_)
       intro g8 c8 w8 vO f8 xd
       have oy:Hv W3 w8 (us++[(.slice a9 n9 c9,ms')]) (.slice (some ⟨g7,0,none⟩) (u+1+1) c7) (.slice (some ⟨g8,0,none⟩) (u+1+1) c8) (Fb wt u++[(k:Int)]):=
        (Wf.out.calm kJ).mdv (by unfold bm;rw[cX,qg,show lu (Fb wt u++[(k:Int)])=lu (Fb wt u)++[vI (k:Int)] by simp[lu]];exact vO) f8 (λb hb=>by
         obtain rfl:=aB.fg hb;rcases xd with e|e
         ·exact .inl e
         ·exact .inr (Nat.le_of_eq e.symm))
       clear Wf vO f8 xd Li kJ)
      obtain⟨g9,o9,rfl,Zl⟩:=Y6.out k Mk;have y5:=Zl w8 (k3.trans oy.c);have y1:=((Cy.calm oy.c) 1 _ rfl).1
      have hF:Hid (Uc W3 tr ms wt (u+1) (.slice (some ⟨g7,0,none⟩) (u+1+1) c7) (.slice (some ⟨g8,0,none⟩) (u+1+1) c8) (vI (tr.getD k aK).dr) w8):=by
       refine⟨us++[(.slice a9 n9 c9,ms')],by rw[cX,Nq.out];rfl,by rw[Kj,V8.out];exact oy,λj hj=>?_,by unfold MB;rw[if_neg (by omega),V8.out]⟩
       by_cases e:j<us.length
       ·rw[P1 e PY];exact Um.out j (by rw[Nq.out] at e;omega)
       ·have e2:j=us.length:=by rw[Nq.out] at e ⊢;omega
        subst e2;rw[Rw,Nq.out];exact oL
      clear oy Zl oL JS;go_wp2;exact⟨⟨u+1,by omega,hF.out⟩,by simp[QM] <;> omega⟩
    ·have hr:MV tr G (MB tr wt u) = -1:=by rw[Us,if_neg (by omega)];rfl
     have aa2:u=n:=by omega
     subst aa2;rw[hr];obtain⟨m1,m2,m3⟩:=JS.out.mdl;have hP:Hid (Vn w u ms wt (.returned (.tuple #[.slice (some ⟨gm,0,none⟩) (u+1) cm,.slice da (u+1) dc])) wb):=⟨_,_,rfl,by rw[Nq.out] at m1;exact m1.calm kb,m2.calm kb,kz.trans kb⟩;clear m1 m2 m3 JS hr Us;go_wp2
     go_ret2
     exact hP.out
end
section
variable {w:aj}{τ:Nat->Nat}{rp i:Nat}{pv:aC}{Q:Pg}{r:Rd}
theorem iZ.fresh(h:iZ w τ rp pv Q i r):∃τ0,iZ w τ0 rp pv Q i r/\nV w τ τ0/\∀k,w.heap.size<=k->τ0 k=10000:=by
 obtain⟨M,atv,cz,ms,h1,h2,h3,h4,h5⟩:=h;obtain⟨τ0,k1,k2,k3⟩:=h1.fresh 10000;exact⟨τ0,⟨M,atv,cz,ms,k1,h2,h3,(dP.Fl (L:=10000) ⟨aq,k2⟩ h4),h5⟩,k2,k3⟩
theorem dP.dp{L:Nat}{w':aj}{aX eY:Nat->Nat}(h:dP L w aX w' eY)(t:nV w τ aX):dP L w τ w' eY:=⟨h.fr.mono (λk hk e=>by show τ k<L;rw[<-t k hk];exact e),λk hk=>(h.tg k hk).trans (t k hk)⟩
def jm(w:aj)(τ:Nat->Nat)(rp i:Nat)(pv:aC)(Q:Pg)(r':Option Rd)(en:Ending)(w':aj):Prop:=
 (∃x aX,r'=some x/\en=.returned (.bool true)/\iZ w' aX rp pv Q (i+1) x/\dP 10000 w τ w' aX)\/(r'=none/\en=.returned (.bool false)/\Fr (λk=>τ k<10000) w w')
abbrev nR:aC:=.slice none 0 0
theorem DC(w:aj)(e:TypeId)(k:Nat):w.ownsRow 0 e k nR 0 []:=⟨by simp,.inl ⟨rfl,rfl⟩⟩
theorem tM.dN{w':aj}{M:Mem}{atv cz wm:aC}{ms ms':List rE}{bY came':Int}{sp G9:List tN}(h1:bF w τ M)(h2:tM M rp pv atv cz sp ms bY)(f:Fr (λb=>b=rp\/aB atv b\/aB cz b) w w')
 (hc:ag w' rp [pv,atv,wm,vI came']) (ha:w'.ownsRow 0 135 2 atv G9.length (G9.flatMap sL)) (ht:w'.ownsRow 0 89 10 wm ms'.length (ms'.flatMap rz)) (iE:∀b,aB wm b->aB cz b\/w.heap.size<=b)
 (hlen:ms.length<=ms'.length) (Xf:∀k,k<ms.length->(ms'.getD k eP).av=(ms.getD k eP).av/\(ms'.getD k eP).x.aJ=(ms.getD k eP).x.aJ/\(ms'.getD k eP).tv=(ms.getD k eP).tv/\(ms'.getD k eP).x.gF=(ms.getD k eP).x.gF)
 (Dg:∀k,ms.length<=k->k<ms'.length->(ms'.getD k eP).av=nR/\(ms'.getD k eP).x.aJ=[]/\(ms'.getD k eP).tv=nR/\(ms'.getD k eP).x.gF=[]) :
 ∃M' aX,bF w' aX M'/\tM M' rp pv atv wm G9 ms' came'/\dP 10000 w τ w' aX:=by
 classical
 have b1:(M 1).bU=λk=>k=rp:=by rw[h2.c];rfl
 have b2:(M 2).bU=aB atv:=by rw[h2.a];rfl
 have b3:(M 3).bU=aB cz:=by rw[h2.t];rfl
 have hS:∀b,(b=rp\/aB atv b\/aB cz b)->τ b=1\/τ b=2\/τ b=3:=λb hb=>by
  rcases hb with hb|hb|hb
  ·exact .inl (h1.tag 1 b (by rw[b1];exact hb))
  ·exact .inr (.inl (h1.tag 2 b (by rw[b2];exact hb)))
  ·exact .inr (.inr (h1.tag 3 b (by rw[b3];exact hb)))
 let M':Mem:=λj=>if j=1 then bD rp pv [atv,wm,vI came'] else if j=2 then dK 135 2 atv G9.length (G9.flatMap sL) else if j=3 then dK 89 10 wm ms'.length (ms'.flatMap rz)
  else if 10+2*ms.length<=j/\j<10+2*ms'.length then (if j % 2=0 then dK 35 3 nR 0 [] else iL nR []) else M j
 have m1:M' 1=bD rp pv [atv,wm,vI came']:=rfl;have m2:M' 2=dK 135 2 atv G9.length (G9.flatMap sL):=rfl;have m3:M' 3=dK 89 10 wm ms'.length (ms'.flatMap rz):=rfl
 have mN:∀j,j≠1->j≠2->j≠3->(10+2*ms.length<=j/\j<10+2*ms'.length)->M' j=if j % 2=0 then dK 35 3 nR 0 [] else iL nR []:=λj e1 e2 e3 e4=>by
  show(if j=1 then _ else if j=2 then _ else if j=3 then _ else if _ then _ else _)=_;rw[if_neg e1,if_neg e2,if_neg e3,if_pos e4]
 have mO:∀j,j≠1->j≠2->j≠3->¬(10+2*ms.length<=j/\j<10+2*ms'.length)->M' j=M j:=λj e1 e2 e3 e4=>by
  show(if j=1 then _ else if j=2 then _ else if j=3 then _ else if _ then _ else _)=_;rw[if_neg e1,if_neg e2,if_neg e3,if_neg e4]
 refine⟨M',λk=>if k<w.heap.size then τ k else if aB wm k then 3 else 10000,⟨λj=>?_,λj k hk=>?_⟩,⟨m1,m2,m3,λk hk=>?_,λj hj=>?_⟩,⟨f.mono (λk _ hk=>by show τ k<10000;have:=hS k hk;omega),λk hk=>if_pos hk⟩⟩
 ·by_cases e1:j=1
  ·subst e1;rw[m1];exact hc
  by_cases e2:j=2
  ·subst e2;rw[m2];exact ha
  by_cases e3:j=3
  ·subst e3;rw[m3];exact ht
  by_cases e4:10+2*ms.length<=j/\j<10+2*ms'.length
  ·rw[mN j e1 e2 e3 e4];split
   ·exact DC _ _ _
   ·exact bm.nil _ _
  ·rw[mO j e1 e2 e3 e4];refine(M j).fr (h1.at_ j) f (λk hk gI=>?_);have:=hS k gI;rw[h1.tag j k hk] at this;omega
 ·by_cases e1:j=1
  ·subst e1;rw[m1] at hk;have hk:k=rp:=hk;have:=h1.lt 1 (k:=rp) (by rw[b1]);rw[hk];simp only[if_pos this];exact h1.tag 1 rp (by rw[b1])
  by_cases e2:j=2
  ·subst e2;rw[m2] at hk;have gI:(M 2).bU k:=by rw[b2];exact hk
   simp only[if_pos (h1.lt 2 gI)];exact h1.tag 2 k gI
  by_cases e3:j=3
  ·subst e3;rw[m3] at hk;have hk:aB wm k:=hk;rcases iE k hk with e|e
   ·have gI:(M 3).bU k:=by rw[b3];exact e
    simp only[if_pos (h1.lt 3 gI)];exact h1.tag 3 k gI
   ·simp only[if_neg (show ¬k<w.heap.size by omega),if_pos hk]
  by_cases e4:10+2*ms.length<=j/\j<10+2*ms'.length
  ·rw[mN j e1 e2 e3 e4] at hk;split at hk
   ·exact absurd hk (aB.nil k)
   ·exact absurd hk (aB.nil k)
  ·rw[mO j e1 e2 e3 e4] at hk;simp only[if_pos (h1.lt j hk)];exact h1.tag j k hk
 ·by_cases e:k<ms.length
  ·obtain⟨g1,g2,g3,g4⟩:=Xf k e;obtain⟨x1,x2⟩:=h2.x k e;rw[g1,g2,g3,g4,mO _ (by omega) (by omega) (by omega) (by omega),mO _ (by omega) (by omega) (by omega) (by omega)];exact⟨x1,x2⟩
  ·obtain⟨g1,g2,g3,g4⟩:=Dg k (by omega) hk;rw[g1,g2,g3,g4,mN _ (by omega) (by omega) (by omega) (by omega),mN _ (by omega) (by omega) (by omega) (by omega),if_pos (by omega),if_neg (by omega)];exact⟨rfl,rfl⟩
 ·rw[mO j (by omega) (by omega) (by omega) (by omega)];exact h2.z j (by omega)
theorem fQ{ga c n:Nat}{sp:List tN}(h:w.ownsRow 0 135 2 (.slice (some ⟨ga,0,none⟩) n c) sp.length (sp.flatMap sL))(hn:n=sp.length){t:Nat}(ht:t<sp.length)(j:Nat)(hj:j<2)(y:aC)(s':tN)(e:sL s'=(sL (sp.getD t cJ)).set j y):(w.setCell ⟨ga,t*2+j,none⟩ y).ownsRow 0 135 2 (.slice (some ⟨ga,0,none⟩) n c) (sp.set t s').length ((sp.set t s').flatMap sL):=by
 subst hn;have:=kg h (j:=t*2+j) (by rw[dS sL 2 eN];omega) y;rw[jW sL 2 eN cJ s' j hj y sp t ht e] at this;rw[bE];exact this
theorem GZ(h:iZ w τ rp pv Q i r)(hi:i<=2000)(hQ:tL Q){t:Nat}(ht:t<Q.length)(b n k ee v:Int):aL prog 101 #[pR rp,vI (i:Int),.agg #[vI (t:Int),vI b,vI n,vI k,vI ee,vI v]] w (jm w τ rp i pv Q (some (r.begin Q i ⟨t,b,n,k,ee,v⟩))):=by
 obtain⟨τ0,h0,tk,fr⟩:=h.fresh;clear h;obtain⟨M,atv,cz,ms,h1,h2,h3,h4,h5⟩:=h0;have hc:ag w rp [pv,atv,cz,vI r.bY]:=by have:=h1.at_ 1;rw[h2.c] at this;exact this
 have ha:w.ownsRow 0 135 2 atv r.sp.length (r.sp.flatMap sL):=by have:=h1.at_ 2;rw[h2.a] at this;exact this
 have ng:w.ownsRow 0 89 10 cz ms.length (ms.flatMap rz):=by have:=h1.at_ 3;rw[h2.t] at this;exact this
 have Gz:t<r.sp.length:=by rw[h5.n];exact ht
 obtain⟨ga,ca,vW,NK⟩:=bz eN (by decide) ha cJ Gz;obtain⟨ta,tc,Ia⟩:=aG ng;obtain⟨pa,pc,zT,xf⟩:=h4;have h4:dJ (λb=>10000<=τ0 b) w pv Q:=⟨pa,pc,zT,xf⟩;obtain⟨g,o,u,rfl,tg,kL,ub,uc,rfl,_⟩:=xf t ht;have Xe:rp<w.heap.size:=hc.lt (by simp);have Ss:¬aB atv rp:=λe=>h1.apart (t:=2) (u:=1) (k:=rp) (by decide) (by rw[h2.a];exact e) (by rw[h2.c];rfl);have aaQ:¬aB cz rp:=λe=>h1.apart (t:=3) (u:=1) (k:=rp) (by decide) (by rw[h2.t];exact e) (by rw[h2.c];rfl);have k0:Calm w (w.alloc (.cells #[vI t,vI b,vI n,vI k,vI ee,vI v] 76)):=aq.alloc _;have oE:ag (w.alloc (.cells #[vI t,vI b,vI n,vI k,vI ee,vI v] 76)) w.heap.size (lG t b n k ee v):=ag.GU w [_,_,_,_,_,_] _ _ rfl;obtain⟨W0,gS⟩:=au (w.alloc (.cells #[vI t,vI b,vI n,vI k,vI ee,vI v] 76));rw[gS] at k0 oE;have jX:=hc.calm k0;obtain⟨c0,c1⟩:=ag.lF jX;obtain⟨NS,su⟩:=au r.sp.length;rw[vW,su] at c1;rw[zT] at c0;rw[su] at Gz;have e0:=(oE 0 _ rfl).1;have e4:=(oE 4 _ rfl).1;replace su:=af su;replace vW:=af vW;go_in;go_wp2_with fail
 go_quiet (fail)
 have k1:Calm w (W0.drewN nq):=k0.trans (aq.drewN nq);have vX:ag (W0.drewN nq) w.heap.size (lG t b n k ee v):=oE.calm (aq.drewN nq);generalize W0.drewN nq=W1 at *;clear gS oE jX c0 c1 e0 e4 k0;have gC:=hc.calm k1
 by_cases h0:ee=0
 ·subst h0;have e4:=(vX 4 _ rfl).1;obtain⟨NM,jD⟩:=au ms.length;have x2:=(gC 2 _ rfl).1;have x3:=(gC 3 _ rfl).1;rw[Ia,jD] at x2;have s1:=(NK 1 _ rfl).1;have My:=(NK 1 _ rfl).2;have y1:=k1.cellAt s1 id;have y1':=k1.frozenAt s1 My id;replace jD:=af jD;have hgb:ga<w.heap.size:=lM _ _ s1;have aaE:ga≠rp:=λe=>Ss (by rw[vW.out,e];exact aB.mk.2 rfl);go_upto_region 6 with fail
  obtain⟨W2,iA⟩:=au (W1.setCell ⟨ga,t*2+1,none⟩ (vI (NM:Int)));have F2:Fr (λk=>k=ga) W1 W2:=by rw[<-iA];exact(Fr.refl (λk=>k=ga) W1).setCell (p:=⟨ga,t*2+1,none⟩) (.inl rfl) _
  have dW:=gC.fr F2 (λe=>aaE e.symm);have vY:=vX.fr F2 (show ¬w.heap.size=ga by omega);rw[iA];replace iA:=af iA;have kd:Calm W2 W2.drew:=aq.drew;have lS:=dW.calm kd;have OP:=vY.calm kd;have x2:W2.drew.cell? ⟨rp,2,none⟩=some (.slice ta NM tc):=by rw[<-jD.out,<-Ia];exact(lS 2 _ rfl).1
  have x3:W2.drew.cell? ⟨rp,3,none⟩=some (vI r.bY):=(lS 3 _ rfl).1;refine a_ 18 20 (λw'=>w'.cell? ⟨rp,2,none⟩=some (.slice ta NM tc)/\w'.cell? ⟨rp,3,none⟩=some (vI r.bY)/\ag w' w.heap.size (lG t b n k 0 v)) (by kernel_rfl) (by kernel_rfl) ⟨x2,x3,OP⟩ ?_;refine ae (pR rp) rfl (λw' hw'=>?_) ai ?_
  ·simp[go_sem]
  refine ae (pR rp) rfl (λw' hw'=>?_) ai ?_
  ·simp[go_sem]
  refine ae (pR rp) rfl (λw' hw'=>?_) ai ?_
  ·simp[go_sem]
  refine ae (.pointer (some ⟨rp,2,none⟩)) rfl (λw' hw'=>?_) ai ?_
  ·simp[go_sem]
  refine ae (.slice ta NM tc) rfl (λw' hw'=>?_) ai ?_
  ·simp[go_sem,hw'.1]
  refine ae (aR w.heap.size) rfl (λw' hw'=>?_) ai ?_
  ·simp[go_sem]
  refine ae (vI (t:Int)) rfl (λw' hw'=>?_) ai ?_
  ·have e:=hw'.2.2;simp only[lG] at e;obtain⟨z0,z1,z2,z3,z4,z5⟩:=ag.t_ e;simp[go_sem,z0,z1,z2,z3,z4,z5]
  refine ae (.pointer (some ⟨w.heap.size,1,none⟩)) rfl (λw' hw'=>?_) ai ?_
  ·simp[go_sem]
  refine ae (vI b) rfl (λw' hw'=>?_) ai ?_
  ·have e:=hw'.2.2;simp only[lG] at e;obtain⟨z0,z1,z2,z3,z4,z5⟩:=ag.t_ e;simp[go_sem,z0,z1,z2,z3,z4,z5]
  refine ae (.pointer (some ⟨w.heap.size,3,none⟩)) rfl (λw' hw'=>?_) ai ?_
  ·simp[go_sem]
  refine ae (.pointer (some ⟨w.heap.size,5,none⟩)) rfl (λw' hw'=>?_) ai ?_
  ·simp[go_sem]
  refine ae (vI v) rfl (λw' hw'=>?_) ai ?_
  ·have e:=hw'.2.2;simp only[lG] at e;obtain⟨z0,z1,z2,z3,z4,z5⟩:=ag.t_ e;simp[go_sem,z0,z1,z2,z3,z4,z5]
  refine ae (pR rp) rfl (λw' hw'=>?_) ai ?_
  ·simp[go_sem]
  refine ae (pR rp) rfl (λw' hw'=>?_) ai ?_
  ·simp[go_sem]
  refine ae (.pointer (some ⟨rp,3,none⟩)) rfl (λw' hw'=>?_) ai ?_
  ·simp[go_sem]
  refine ae (vI r.bY) rfl (λw' hw'=>?_) ai ?_
  ·simp[go_sem,hw'.2.1]
  refine ae (vI (i:Int)) rfl (λw' hw'=>?_) ai ?_
  ·simp[go_sem]
  refine ae (.agg #[vI (t:Int),vI b,vI v,vI r.bY,vI (i:Int),vI (-1),.slice none 0 0,.slice none 0 0,vI 0,vI 0]) rfl (λw' hw'=>?_) ai ?_
  ·simp[go_sem]
  simp only[bG];have kA:Calm W2 (W2.drew.alloc (.cells #[vI (t:Int),vI b,vI v,vI r.bY,vI (i:Int),vI (-1),.slice none 0 0,.slice none 0 0,vI 0,vI 0] 89)):=kd.alloc _;have yE:=dW.calm kA;have Tl:=vY.calm kA;have hS:=(show _/\_/\_ from⟨(by rw[<-jD.out,<-Ia];exact(yE 2 _ rfl).1:World.cell? (W2.drew.alloc (.cells #[vI (t:Int),vI b,vI v,vI r.bY,vI (i:Int),vI (-1),.slice none 0 0,.slice none 0 0,vI 0,vI 0] 89)) ⟨rp,2,none⟩=some (.slice ta NM tc)),(yE 3 _ rfl).1,Tl⟩)
  have JI:∀b,aB (.slice ta NM tc) b->b<w.heap.size/\b≠ga/\b≠rp:=λb hb=>by
   rw[<-jD.out,<-Ia] at hb;refine⟨(World.ownsRow.lt ng b hb).2,λe=>?_,λe=>aaQ (e ▸ hb)⟩;exact h1.apart (t:=3) (u:=2) (k:=b) (by decide) (by rw[h2.t];exact hb) (by rw[h2.a,vW.out,e];exact aB.mk.2 rfl)
  have Xt:W1.ownsRow 0 89 10 (.slice ta NM tc) NM (ms.flatMap rz):=by rw[<-jD.out,<-Ia];exact az ng k1 (λ_ _=>id)
  have Xu:=az (az Xt F2 (λb hb e=>(JI b hb).2.1 e)) kA (λ_ _=>id);refine bH rfl ?_;unfold Oper.wp;go_simp;refine⟨hS,?_⟩;refine bH rfl ?_;refine Eq.mp (if_pos (show Region.wanted _ (yielded _ _)=true from rfl)) (gu (ops:=#[]) (E:=True) aaj rfl (.tmp 43) (.tmp 57) rfl (.slice ta NM tc) NM _ Xu rfl (rz ⟨⟨t,b,v,r.bY,i,-1,[],[],0,0⟩,nR,nR⟩) rfl (by simp[rz,Value.oneCell']) ⟨W2.heap.size,0,none⟩ 1 rfl (λj u hj=>by rw[cT];simp only[fk];exact wO W2.drew _ _ _ hj) (by have h6:=h5.l;rw[<-h3,List.length_map] at h6;have:=jD.out;omega) ?_);intro g1 c1 w3 fu f3 Da;have V0:=yE.fr f3 (λe=>(JI _ e).2.2 rfl);have DG:=Tl.fr f3 (λe=>by have:=(JI _ e).1;omega);have x23:w3.cell? ⟨rp,2,none⟩=some (.slice ta NM tc):=by rw[<-jD.out,<-Ia];exact(V0 2 _ rfl).1
  have ab6:=(V0 2 _ rfl).2;have h34:=V0.set 2 (.slice (some ⟨g1,0,none⟩) (NM+1) c1) (by simp);have F4:=l_ w3 (rp) 2 (.slice (some ⟨g1,0,none⟩) (NM+1) c1)
  have pz:∀b,aB (.slice (some ⟨g1,0,none⟩) (NM+1) c1) b->aB (.slice ta NM tc) b\/W2.heap.size<=b:=λb hb=>by
   obtain rfl:=aB.fg hb;rcases Da with e|e
   ·exact .inl e
   ·right;rw[e];exact kA.size
  have abW:w.heap.size<W2.heap.size:=vY.lt (by simp[lG])
  have N8:=az fu F4 (λb hb e=>by
   subst e;rcases pz _ hb with e2|e2
   ·exact(JI _ e2).2.2 rfl
   ·omega)
  have Me:=az ha k1 (λ_ _=>id)
  have Wm:W2.ownsRow 0 135 2 atv (r.sp.set t ⟨(r.sp.getD t cJ).block,(NM:Int)⟩).length ((r.sp.set t ⟨(r.sp.getD t cJ).block,(NM:Int)⟩).flatMap sL):=by
   rw[<-iA.out,vW.out];rw[vW.out] at Me;exact fQ Me rfl (by rw[su.out];exact Gz) 1 (by decide) _ _ rfl
  have ER:∀b,aB atv b->b≠rp/\¬aB (.slice ta NM tc) b:=λb hb=>⟨λe=>Ss (e ▸ hb),λe=>by
   rw[<-jD.out,<-Ia] at e
   exact h1.apart (t:=2) (u:=3) (k:=b) (by decide) (by rw[h2.a];exact hb) (by rw[h2.t];exact e)⟩
  have ha4:=az (az (az Wm kA (λ_ _=>id)) f3 (λb hb=>(ER b hb).2)) F4 (λb hb=>(ER b hb).1)
  have dM:Fr (λb=>b=rp\/aB atv b\/aB cz b) w (w3.setCell ⟨rp,2,none⟩ (.slice (some ⟨g1,0,none⟩) (NM+1) c1)):=
   ((((Calm.any k1:Fr (λb=>b=rp\/aB atv b\/aB cz b) _ _).trans (F2.mono (λb _ e=>.inr (.inl (by rw[vW.out,e];exact aB.mk.2 rfl))))).trans (Calm.any kA)).trans (f3.mono (λb _ e=>.inr (.inr (by rw[Ia,jD.out];exact e))))).trans (F4.mono (λb _ e=>.inl e))
  have hP:jm w τ rp i pv Q (some (r.begin Q i ⟨t,b,n,k,0,v⟩)) (.returned (.bool true)) (w3.setCell ⟨rp,2,none⟩ (.slice (some ⟨g1,0,none⟩) (NM+1) c1)):=by
   obtain⟨M',aX,m1,m2,m3⟩:=tM.dN (ms':=ms++[⟨⟨t,b,v,r.bY,i,-1,[],[],0,0⟩,nR,nR⟩]) h1 h2 dM h34 ha4 (by
    rw[cX,List.flatMap_append];simpa[jD.out] using N8) (λb hb=>by
    rcases pz b hb with e|e
    ·exact .inl (by rw[Ia,jD.out];exact e)
    ·exact .inr (by omega)) (by simp) (λk hk=>by rw[P1 hk];exact⟨rfl,rfl,rfl,rfl⟩) (λk hk gI=>by
    obtain rfl:k=ms.length:=by simp at gI;omega
    rw[Rw]
    exact⟨rfl,rfl,rfl,rfl⟩)
   have zR:r.tr.length=NM:=by rw[<-h3,List.length_map,jD.out]
   have er:r.begin Q i ⟨t,b,n,k,0,v⟩=⟨r.sp.set t ⟨(r.sp.getD t cJ).block,(NM:Int)⟩,r.tr++[⟨t,b,v,r.bY,i,-1,[],[],0,0⟩],r.bY⟩:=by
    unfold Rd.begin;rw[if_neg (by simp),zR];rfl
   refine .inl ⟨_,aX,rfl,rfl,?_,m3.dp tk⟩;rw[er]
   refine⟨M',_,_,_,m1,m2,by rw[List.map_append,h3];rfl,m3.Fl h4,h5.dN (t:=t) (.inl rfl) ⟨(h5.s t (by rw[su.out];exact Gz)).1,by show(-1:Int)<=(NM:Int);omega,by show(NM:Int)<((r.tr++[_]).length:Nat);rw[cX,zR];simp;omega⟩ ⟨by simp,by have:=h5.l;simp;omega⟩ rfl (λk hk=>by
    by_cases e:k<r.tr.length
    ·exact .inl ⟨e,P1 e _⟩
    ·obtain rfl:k=r.tr.length:=by simp at hk;omega
     right;show((r.tr++[_]).getD r.tr.length aK).aJ.length<=i+1/\_;rw[Rw]
     exact⟨cK _,cK _,Int.le_refl 0,by show(0:Int)<=2;decide⟩)⟩
  replace hP:=af hP;refine⟨⟨x23,(V0 3 _ rfl).1,DG⟩,?_⟩;simp only[bW];clear V0 DG h34 F4 pz N8 Me Wm ER ha4 dM hS f3 fu Da yE Tl kA Xu Xt JI x2 x3 lS OP vY dW F2;go_wp2;go_ret;exact hP.out
 ·have YR:(ee != 0)=true:=by simp[bne,h0]
  have e4:=(vX 4 _ rfl).1;have q0:∀x:bS W1,x.w.cell? ⟨rp,0,none⟩=some (.slice (some ⟨g,o,none⟩) Q.length pc):=λx=>by rw[<-zT];exact x.cell (gC 0 _ rfl).1
  have q1:=GH vX 0 rfl;have q2:∀x:bS W1,x.w.cell? ⟨g,o+t,none⟩=some (.slice ub (Q.getD t []).length uc):=λx=>x.cell (k1.cellAt kL id);obtain⟨NQ,ji⟩:=au Q.length;obtain⟨NB,oH⟩:=au ((Q.getD t []).length);have xg:=ht;rw[ji] at q0 xg;rw[oH] at q2;go_wp2_with fail
  refine fM 12 (by kernel_rfl) (by kernel_rfl) ?_;simp only[List.take_succ_cons,List.take_zero,List.drop_succ_cons,List.drop_zero]
  repeat (go_big_quiet_step (fail))
  refine wpQuiet_nil ?_;intro w5 hw';have c5:=bS.out hw';clear hw' q0 q1 q2;have kw:Calm w w5:=k1.trans c5;have s1:=(NK 0 _ rfl).1;have My:=(NK 0 _ rfl).2;rw[fj] at s1 My;have y1:=kw.cellAt s1 id;have y1':=kw.frozenAt s1 My id;have Me:=az ha kw (λ_ _=>id)
  have Wm:(w5.setCell ⟨ga,t*2,none⟩ (vI (NB:Int))).ownsRow 0 135 2 atv (r.sp.set t ⟨(NB:Int),(r.sp.getD t cJ).tr⟩).length ((r.sp.set t ⟨(NB:Int),(r.sp.getD t cJ).tr⟩).flatMap sL):=by
   rw[vW.out] at Me ⊢;exact fQ Me rfl (by rw[su.out];exact Gz) 0 (by decide) _ _ rfl
  have F2:Fr (λk=>k=ga) w5 (w5.setCell ⟨ga,t*2,none⟩ (vI (NB:Int))):=(Fr.refl (λk=>k=ga) w5).setCell (p:=⟨ga,t*2,none⟩) (.inl rfl) _;have Rz:aB atv ga:=by rw[vW.out];exact aB.mk.2 rfl
  have dM:Fr (λb=>b=rp\/aB atv b\/aB cz b) w (w5.setCell ⟨ga,t*2,none⟩ (vI (NB:Int))):=(Calm.any kw:Fr (λb=>b=rp\/aB atv b\/aB cz b) _ _).trans (F2.mono (λb _ e=>.inr (.inl (by rw[e];exact Rz))));have Y3:=(hc.calm kw).fr F2 (λe=>Ss (by rw[e];exact Rz));have UJ:=az (az ng kw (λ_ _=>id)) F2 (λb hb e=>h1.apart (t:=3) (u:=2) (k:=b) (by decide) (by rw[h2.t];exact hb) (by rw[h2.a,e];exact Rz))
  have hP:jm w τ rp i pv Q (some (r.begin Q i ⟨t,b,n,k,ee,v⟩)) (.returned (.bool true)) (w5.setCell ⟨ga,t*2,none⟩ (vI (NB:Int))):=by
   obtain⟨M',aX,m1,m2,m3⟩:=tM.dN (ms':=ms) h1 h2 dM Y3 Wm UJ (λb hb=>.inl hb) (aM _) (λk hk=>⟨rfl,rfl,rfl,rfl⟩) (λk h1 h2=>by omega)
   have er:r.begin Q i ⟨t,b,n,k,ee,v⟩ = { r with sp:=r.sp.set t ⟨(NB:Int),(r.sp.getD t cJ).tr⟩ }:=by
    unfold Rd.begin;rw[if_pos h0,<-oH];rfl
   refine .inl ⟨_,aX,rfl,rfl,?_,m3.dp tk⟩;rw[er];have RK:=hQ.b t ht;have hs5:=h5.s t (by rw[su.out];exact Gz);exact⟨M',_,_,_,m1,m2,h3,m3.Fl h4,h5.dN (t:=t) (.inl rfl) ⟨⟨by show(-9223372036854775808:Int)<=(NB:Int);omega,by show(NB:Int)<=_;omega⟩,hs5.2⟩ ⟨aM _,by have:=h5.l;show r.tr.length<=_;omega⟩ rfl (λk hk=>.inl ⟨hk,rfl⟩)⟩
  replace hP:=af hP;clear dM Y3 UJ Me Wm F2 vX gC e4 kL;go_wp2;go_ret;exact hP.out
end
section
variable {w:aj}{τ:Nat->Nat}{rp i:Nat}{pv:aC}{Q:Pg}{r:Rd}
theorem cf{α:Type}{ety:TypeId}{k:Nat}{f:α->List aC}(hf:∀a,(f a).length=k)(hk:0<k){g n c:Nat}{l:List α}(h:w.ownsRow 0 ety k (.slice (some ⟨g,0,none⟩) n c) l.length (l.flatMap f))(d:α){i:Nat}(hi:i<l.length)(j:Nat){u:aC}(hu:(f (l.getD i d))[j]?=some u):Own w g (i*k+j) u:=by
 obtain⟨g',c',hv,hc⟩:=bz hf hk h d hi;injection hv with e1 e2 e3
 injection e1 with e1
 injection e1 with e1 _ _
 subst e1;exact hc j u hu
theorem fV{gt c n:Nat}{ms:List rE}(h:w.ownsRow 0 89 10 (.slice (some ⟨gt,0,none⟩) n c) ms.length (ms.flatMap rz))(hn:n=ms.length){t:Nat}(ht:t<ms.length)(j:Nat)(hj:j<10)(y:aC)(s':rE)(e:rz s'=(rz (ms.getD t eP)).set j y):(w.setCell ⟨gt,t*10+j,none⟩ y).ownsRow 0 89 10 (.slice (some ⟨gt,0,none⟩) n c) (ms.set t s').length ((ms.set t s').flatMap rz):=by
 subst hn;have:=kg h (j:=t*10+j) (by rw[dS rz 10 fq];omega) y;rw[jW rz 10 fq eP s' j hj y ms t ht e] at this;rw[bE];exact this
theorem mF{ms:List rE}{j:Nat}{m':rE}(hj:j<ms.length)(h:m'.av=(ms.getD j eP).av/\m'.x.aJ=(ms.getD j eP).x.aJ/\m'.tv=(ms.getD j eP).tv/\m'.x.gF=(ms.getD j eP).x.gF):∀k,k<ms.length->((ms.set j m').getD k eP).av=(ms.getD k eP).av/\((ms.set j m').getD k eP).x.aJ=(ms.getD k eP).x.aJ/\((ms.set j m').getD k eP).tv=(ms.getD k eP).tv/\((ms.set j m').getD k eP).x.gF=(ms.getD k eP).x.gF:=λk hk=>by
 by_cases e:k=j
 ·subst e;rw[ks hk];exact h
 ·rw[rH e];exact⟨rfl,rfl,rfl,rfl⟩
structure RdJ(w:aj)(τ:Nat->Nat)(rp i:Nat)(pv:aC)(Q:Pg)(r:Rd)(t b j:Nat)(M:Mem)(ms:List rE)(ga ca gt ct gp op cp gb ob cb:Nat)(U4 ud:aC)(gq oq cq:Nat):Prop where
 h:bF w τ M
 m:tM M rp pv (.slice (some ⟨ga,0,none⟩) r.sp.length ca) (.slice (some ⟨gt,0,none⟩) ms.length ct) r.sp ms r.bY
 e:ms.map (·.x)=r.tr
 p:dJ (λb=>10000<=τ b) w pv Q
 k:MM Q r i
 c:ag w rp [pv,.slice (some ⟨ga,0,none⟩) r.sp.length ca,.slice (some ⟨gt,0,none⟩) ms.length ct,vI r.bY]
 a:w.ownsRow 0 135 2 (.slice (some ⟨ga,0,none⟩) r.sp.length ca) r.sp.length (r.sp.flatMap sL)
 tt:w.ownsRow 0 89 10 (.slice (some ⟨gt,0,none⟩) ms.length ct) ms.length (ms.flatMap rz)
 ts:t<r.sp.length
 js:j<ms.length
 pv_:pv=.slice (some ⟨gp,op,none⟩) Q.length cp
 pb:w.cell? ⟨gp,op+t,none⟩=some U4
 ub:U4=.slice (some ⟨gb,ob,none⟩) (Q.getD t []).length cb
 pd:w.cell? ⟨gb,ob+b,none⟩=some ud
 ud_:∃ad,ud=.slice ad ((Q.getD t []).getD b []).length cq/\(0<((Q.getD t []).getD b []).length->ad=some ⟨gq,oq,none⟩)
 dd:∀n,n<((Q.getD t []).getD b []).length->∀c u,(eZ (((Q.getD t []).getD b []).getD n dD))[c]?=some u->w.cell? ⟨gq,oq+n*5+c,none⟩=some u
 ne:ga≠gt/\ga≠rp/\gt≠rp
theorem iZ.at_(h:iZ w τ rp pv Q i r){t b j:Nat}(ht:t<Q.length)(hb:b<(Q.getD t []).length)(hj:(r.sp.getD t cJ).tr=(j:Int)):∃M ms ga ca gt ct gp op cp gb ob cb U4 ud gq oq cq,RdJ w τ rp i pv Q r t b j M ms ga ca gt ct gp op cp gb ob cb U4 ud gq oq cq:=by
 obtain⟨M,atv,cz,ms,h1,h2,h3,h4,h5⟩:=h;have hc:ag w rp [pv,atv,cz,vI r.bY]:=by have:=h1.at_ 1;rw[h2.c] at this;exact this
 have ha:w.ownsRow 0 135 2 atv r.sp.length (r.sp.flatMap sL):=by have:=h1.at_ 2;rw[h2.a] at this;exact this
 have ng:w.ownsRow 0 89 10 cz ms.length (ms.flatMap rz):=by have:=h1.at_ 3;rw[h2.t] at this;exact this
 have Gz:t<r.sp.length:=by rw[h5.n];exact ht
 have NP:j<ms.length:=by have:=(h5.s t Gz).2.2;rw[<-h3,List.length_map,hj] at this;omega
 obtain⟨ga,ca,rfl,NK⟩:=bz eN (by decide) ha cJ Gz;obtain⟨gt,ct,rfl,Y6⟩:=bz fq (by decide) ng eP NP;obtain⟨pa,pc,zT,xf⟩:=h4;have h4:dJ (λb=>10000<=τ b) w pv Q:=⟨pa,pc,zT,xf⟩;obtain⟨g,o,u,rfl,tg,kL,ub,uc,SE,Ny⟩:=xf t ht;obtain⟨g2,o2,u2,rfl,tg2,mY,ud,dc,GC,yH⟩:=Ny b hb;have hne:ga≠gt/\ga≠rp/\gt≠rp:=⟨λe=>h1.apart (t:=2) (u:=3) (k:=ga) (by decide) (by rw[h2.a];exact aB.mk.2 rfl) (by rw[h2.t,e];exact aB.mk.2 rfl),λe=>h1.apart (t:=2) (u:=1) (k:=ga) (by decide) (by rw[h2.a];exact aB.mk.2 rfl) (by rw[h2.c];exact e),λe=>h1.apart (t:=3) (u:=1) (k:=gt) (by decide) (by rw[h2.t];exact aB.mk.2 rfl) (by rw[h2.c];exact e)⟩
 by_cases h0:0<((Q.getD t []).getD b []).length
 ·obtain⟨g3,o3,e3,tg3,oI⟩:=yH 0 h0;refine⟨M,ms,ga,ca,gt,ct,g,o,pc,g2,o2,uc,u,u2,g3,o3,dc,⟨h1,h2,h3,h4,h5,hc,ha,ng,Gz,NP,zT,kL,SE,mY,⟨ud,GC,λ_=>e3⟩,λn hn c x hx=>?_,hne⟩⟩;obtain⟨g4,o4,e4,tg4,aay⟩:=yH n hn;rw[e3] at e4;injection e4 with e4
  injection e4 with e4 e5 e6
  subst e4 e5;exact aay c x hx
 ·exact⟨M,ms,ga,ca,gt,ct,g,o,pc,g2,o2,uc,u,u2,0,0,dc,⟨h1,h2,h3,h4,h5,hc,ha,ng,Gz,NP,zT,kL,SE,mY,⟨ud,GC,λe=>absurd e h0⟩,λn hn=>by omega,hne⟩⟩
theorem D2(h:iZ w τ rp pv Q i r)(hi:i<=2000)(hQ:tL Q){t b j:Nat}(ht:t<Q.length)(hb:b<(Q.getD t []).length)(hj:(r.sp.getD t cJ).tr=(j:Int))(sW:(r.sp.getD t cJ).block=(b:Int))(n k ee v:Int):aL prog 103 #[pR rp,vI (i:Int),.agg #[vI (t:Int),vI (b:Int),vI n,vI k,vI ee,vI v]] w (jm w τ rp i pv Q (r.fe Q i ⟨t,b,n,k,ee,v⟩)):=by
 obtain⟨τ0,h0,tk,fr⟩:=h.fresh;clear h;obtain⟨M,ms,ga,ca,gt,ct,gp,op,cp,gb,ob,cb,U4,ud,gq,oq,cq,hJ⟩:=h0.at_ ht hb hj;have Xe:rp<w.heap.size:=hJ.c.lt (by simp);have k0:Calm w (w.alloc (.cells #[vI (t:Int),vI (b:Int),vI n,vI k,vI ee,vI v] 76)):=aq.alloc _;have oE:ag (w.alloc (.cells #[vI (t:Int),vI (b:Int),vI n,vI k,vI ee,vI v] 76)) w.heap.size (lG t b n k ee v):=ag.GU w [_,_,_,_,_,_] _ _ rfl;obtain⟨W0,gS⟩:=au (w.alloc (.cells #[vI (t:Int),vI (b:Int),vI n,vI k,vI ee,vI v] 76));rw[gS] at k0 oE;obtain⟨NS,su⟩:=au r.sp.length;obtain⟨NM,jD⟩:=au ms.length;obtain⟨NQ,ji⟩:=au Q.length;obtain⟨NB,oH⟩:=au ((Q.getD t []).length);obtain⟨ND,Jj⟩:=au (((Q.getD t []).getD b []).length);obtain⟨ad,GC,-⟩:=hJ.ud_;have hts:=hJ.ts;have NP:=hJ.js;rw[su] at hts;rw[jD] at NP;rw[ji] at ht;rw[oH] at hb;rw[Jj] at GC;obtain⟨m,hm⟩:=au (ms.getD j eP)
 obtain⟨aa,ac,Jq⟩:∃a c,m.av=.slice a m.x.aJ.length c:=by
  have:=hJ.h.at_ (10+2*j);rw[(hJ.m.x j hJ.js).1,hm] at this;exact aG this
 have Cx:∀W,Calm w W->W.cell? ⟨rp,1,none⟩=some (.slice (some ⟨ga,0,none⟩) NS ca):=λW c=>by rw[<-su];exact c.cellAt (hJ.c 1 _ rfl).1 id
 have Ie:∀W,Calm w W->W.cell? ⟨rp,2,none⟩=some (.slice (some ⟨gt,0,none⟩) NM ct):=λW c=>by rw[<-jD];exact c.cellAt (hJ.c 2 _ rfl).1 id
 have vA:∀W,Calm w W->W.cell? ⟨rp,0,none⟩=some (.slice (some ⟨gp,op,none⟩) NQ cp):=λW c=>by rw[<-ji,<-hJ.pv_];exact c.cellAt (hJ.c 0 _ rfl).1 id
 have SM:∀W,Calm w W->W.cell? ⟨ga,t*2+1,none⟩=some (vI (j:Int)):=λW c=>c.cellAt (cf eN (by decide) hJ.a cJ hJ.ts 1 (by rw[<-hj];rfl)).1 id;have J6:∀W,Calm w W->W.cell? ⟨gt,j*10+6,none⟩=some (.slice aa m.x.aJ.length ac):=λW c=>by rw[<-Jq];exact c.cellAt (cf fq (by decide) hJ.tt eP hJ.js 6 (by rw[hm];rfl)).1 id
 have Mp:∀W,Calm w W->W.cell? ⟨gp,op+t,none⟩=some (.slice (some ⟨gb,ob,none⟩) NB cb):=λW c=>by rw[<-oH,<-hJ.ub];exact c.cellAt hJ.pb id
 have Qq:∀W,Calm w W->W.cell? ⟨gb,ob+b,none⟩=some (.slice ad ND cq):=λW c=>by rw[<-GC];exact c.cellAt hJ.pd id
 obtain⟨NA,wX⟩:=au m.x.aJ.length;rw[wX] at J6;have z1:=Cx W0 k0;have z0:=(oE 0 _ rfl).1;replace hJ:=af hJ;replace su:=af su;replace jD:=af jD;replace ji:=af ji;replace oH:=af oH;replace Jj:=af Jj;replace wX:=af wX;replace hm:=af hm;replace Jq:=af Jq;replace GC:=af GC;replace hj:=af hj;replace sW:=af sW;replace vA:=af vA;replace Cx:=af Cx;replace Ie:=af Ie;replace SM:=af SM;replace J6:=af J6;replace Mp:=af Mp;replace Qq:=af Qq;replace hQ:=af hQ;clear h0;go_in;go_wp2_with fail
 clear gS
 go_quiet (fail)
 have k1:Calm w (W0.drewN nq):=k0.trans (aq.drewN nq);have vX:ag (W0.drewN nq) w.heap.size (lG t b n k ee v):=oE.calm (aq.drewN nq);generalize W0.drewN nq=W1 at *;clear z0 z1 oE k0;have z1:=Cx.out W1 k1;have z2:=Ie.out W1 k1;have z3:=SM.out W1 k1;go_wp2_with fail
 go_quiet (fail)
 have k2:Calm w (W1.drewN nq):=k1.trans (aq.drewN nq);have vY:ag (W1.drewN nq) w.heap.size (lG t b n k ee v):=vX.calm (aq.drewN nq);generalize W1.drewN nq=W2 at *;clear z1 z2 z3 vX k1;have z1:=J6.out W2 k2;have z2:=(vY 2 _ rfl).1;have qV:Hid (∀W,Calm w W->r.fe Q i ⟨t,b,n,k,ee,v⟩=none->jm w τ rp i pv Q (r.fe Q i ⟨t,b,n,k,ee,v⟩) (.returned (.bool false)) W):=λW c e=>.inr ⟨e,rfl,c.any⟩
 have ng:Hid ((r.kY ⟨t,b,n,k,ee,v⟩).aJ.length=NA):=by
  have hJ:=hJ.out;unfold Rd.kY Rd.spot;show(r.tr.getD (r.sp.getD t cJ).tr.toNat aK).aJ.length=NA;rw[hj.out,<-hJ.e];show((ms.map (·.x)).getD j (eP.x)).aJ.length=NA;rw[ss,hm.out,wX.out]
 have Gr:Hid ((bU Q (t:Int) (b:Int)).length=ND):=Jj.out
 by_cases hn:n=(NA:Int)
 ·by_cases nJ:n=(ND:Int)
  ·have NZ:(n != (NA:Int))=false:=by simp[hn]
   have Sn:(n != (ND:Int))=false:=by simp[nJ]
   have z3:=vA.out W2 k2;have z4:=(vY 0 _ rfl).1;have z5:=Mp.out W2 k2;have z6:=(vY 1 _ rfl).1;have z7:=Qq.out W2 k2;replace hn:=af hn;replace nJ:=af nJ;go_wp2_with fail
   go_quiet (fail)
   have k3:Calm w (W2.drewN nq):=k2.trans (aq.drewN nq);have DG:ag (W2.drewN nq) w.heap.size (lG t b n k ee v):=vY.calm (aq.drewN nq);generalize W2.drewN nq=W3 at *;clear z1 z2 z3 z4 z5 z6 z7 vY k2;have hJ:=hJ.out;have abz:=jD.out;have abC:=su.out;have fF:=hm.out;obtain⟨fG,A_,qU⟩:=hJ.ne;have Hy:aB (.slice (some ⟨ga,0,none⟩) r.sp.length ca) ga:=aB.mk.2 rfl;have AF:aB (.slice (some ⟨gt,0,none⟩) ms.length ct) gt:=aB.mk.2 rfl;have T3:=az hJ.tt k3 (λ_ _=>id);have A3:=az hJ.a k3 (λ_ _=>id);have C3:=hJ.c.calm k3;have gaw:ga<w.heap.size:=(World.ownsRow.lt hJ.a ga Hy).2;have gtw:gt<w.heap.size:=(World.ownsRow.lt hJ.tt gt AF).2;have p5:=cf fq (by decide) T3 eP hJ.js 5 (u:=vI m.x.dr) (by rw[fF];rfl);have T4:=fV T3 rfl hJ.js 5 (by decide) (vI (i:Int)) { m with x:={ m.x with dr:=(i:Int) } } (by rw[fF];rfl);have F4:Fr (λk=>k=gt) W3 (W3.setCell ⟨gt,j*10+5,none⟩ (vI (i:Int))):=(Fr.refl (λk=>k=gt) W3).setCell (p:=⟨gt,j*10+5,none⟩) (.inl rfl) _;obtain⟨W4,zO⟩:=au (W3.setCell ⟨gt,j*10+5,none⟩ (vI (i:Int)));rw[zO] at T4 F4;have A4:=az A3 F4 (λb hb e=>fG (by obtain rfl:=aB.fg hb;exact e));have C4:=C3.fr F4 (λe=>qU e.symm);have E4:=DG.fr F4 (show ¬w.heap.size=gt by omega);have q1:=cf eN (by decide) A4 cJ hJ.ts 1 (u:=vI (j:Int)) (by rw[<-hj.out];rfl);have A5:=fQ A4 rfl hJ.ts 1 (by decide) (vI (-1)) ⟨(r.sp.getD t cJ).block,-1⟩ rfl;have F5:Fr (λk=>k=ga) W4 (W4.setCell ⟨ga,t*2+1,none⟩ (vI (-1))):=(Fr.refl (λk=>k=ga) W4).setCell (p:=⟨ga,t*2+1,none⟩) (.inl rfl) _;obtain⟨W5,mW⟩:=au (W4.setCell ⟨ga,t*2+1,none⟩ (vI (-1)));rw[mW] at A5 F5;have T5:=az T4 F5 (λb hb e=>fG (by obtain rfl:=aB.fg hb;exact e.symm));have C5:=C4.fr F5 (λe=>A_ e.symm);have E5:=E4.fr F5 (show ¬w.heap.size=ga by omega);have js5:j<(ms.set j { m with x:={ m.x with dr:=(i:Int) } }).length:=by rw[bE];exact hJ.js
   have g5:=ks hJ.js ({ m with x:={ m.x with dr:=(i:Int) } } : rE) eP;have p8:=cf fq (by decide) T5 eP js5 8 (u:=vI m.x.en) (by rw[g5];rfl);have p51:=p5.1;have p52:=p5.2;have uQ:=q1.1;have q_:=q1.2;have p81:=p8.1;have p82:=p8.2;have Nk:Fr (λb=>b=rp\/aB (.slice (some ⟨ga,0,none⟩) r.sp.length ca) b\/aB (.slice (some ⟨gt,0,none⟩) ms.length ct) b) w W5:=((Calm.any k3:Fr (λb=>b=rp\/aB (.slice (some ⟨ga,0,none⟩) r.sp.length ca) b\/aB (.slice (some ⟨gt,0,none⟩) ms.length ct) b) _ _).trans (F4.mono (λb _ e=>.inr (.inr (by rw[e];exact AF))))).trans (F5.mono (λb _ e=>.inr (.inl (by rw[e];exact Hy))));have z1:=(E5 4 _ rfl).1
   by_cases h0:ee=0
   ·subst h0;have T6:=fV (n:=ms.length) T5 (by rw[bE]) js5 8 (by decide) (vI 1) { m with x:={ m.x with dr:=(i:Int),en:=1 } } (by rw[g5];rfl);rw[List.set_set] at T6;have F6:Fr (λk=>k=gt) W5 (W5.setCell ⟨gt,j*10+8,none⟩ (vI 1)):=(Fr.refl (λk=>k=gt) W5).setCell (p:=⟨gt,j*10+8,none⟩) (.inl rfl) _;obtain⟨W6,lQ⟩:=au (W5.setCell ⟨gt,j*10+8,none⟩ (vI 1));rw[lQ] at T6 F6;have A6:=az A5 F6 (λb hb e=>fG (by obtain rfl:=aB.fg hb;exact e));have C6:=C5.fr F6 (λe=>qU e.symm);have E6:=E5.fr F6 (show ¬w.heap.size=gt by omega);have SR:j<(ms.set j { m with x:={ m.x with dr:=(i:Int),en:=1 } }).length:=by rw[bE];exact hJ.js
    have g6:=ks hJ.js ({ m with x:={ m.x with dr:=(i:Int),en:=1 } } : rE) eP;have p9:=cf fq (by decide) T6 eP SR 9 (u:=vI m.x.bt) (by rw[g6];rfl);have p91:=p9.1;have p92:=p9.2;have T7:=fV (n:=ms.length) T6 (by rw[bE]) SR 9 (by decide) (vI v) { m with x:={ m.x with dr:=(i:Int),en:=1,bt:=v } } (by rw[g6];rfl);rw[List.set_set] at T7;have F7:Fr (λk=>k=gt) W6 (W6.setCell ⟨gt,j*10+9,none⟩ (vI v)):=(Fr.refl (λk=>k=gt) W6).setCell (p:=⟨gt,j*10+9,none⟩) (.inl rfl) _;obtain⟨W7,sU⟩:=au (W6.setCell ⟨gt,j*10+9,none⟩ (vI v));rw[sU] at T7 F7;have A7:=az A6 F7 (λb hb e=>fG (by obtain rfl:=aB.fg hb;exact e));have C7:=C6.fr F7 (λe=>qU e.symm);have ts7:t<(r.sp.set t ⟨(r.sp.getD t cJ).block,-1⟩).length:=by rw[bE];exact hJ.ts
    have g7:=ks hJ.ts (⟨(r.sp.getD t cJ).block,-1⟩:tN) cJ;have q0:=cf eN (by decide) A7 cJ ts7 0 (u:=vI (b:Int)) (by rw[g7,<-sW.out];rfl);rw[fj] at q0;have qk:=q0.1;have ql:=q0.2;have A8:=fQ (n:=r.sp.length) A7 (by rw[bE]) ts7 0 (by decide) (vI ((b:Int)+1)) ⟨(b:Int)+1,-1⟩ (by rw[g7];rfl);rw[List.set_set,fj] at A8;have F8:Fr (λk=>k=ga) W7 (W7.setCell ⟨ga,t*2,none⟩ (vI ((b:Int)+1))):=(Fr.refl (λk=>k=ga) W7).setCell (p:=⟨ga,t*2,none⟩) (.inl rfl) _;obtain⟨W8,jn⟩:=au (W7.setCell ⟨ga,t*2,none⟩ (vI ((b:Int)+1)));rw[jn] at A8 F8;have T8:=az T7 F8 (λb hb e=>fG (by obtain rfl:=aB.fg hb;exact e.symm));have C8:=C7.fr F8 (λe=>A_ e.symm);have z6:=(E6 5 _ rfl).1;have RK:NB<=3:=by have:=hQ.out.b t (by rw[ji.out];exact ht);rw[oH.out] at this;exact this
    have AL:cL ((b:Int)+1):=⟨by omega,by omega⟩;have J2:IntKind.i64.wrap ((b:Int)+1)=(b:Int)+1:=IntWalk.i64_in _ AL
    have hP:jm w τ rp i pv Q (r.fe Q i ⟨t,b,n,k,0,v⟩) (.returned (.bool true)) W8:=by
     have ED:=((Nk.trans (F6.mono (λb _ e=>.inr (.inr (by rw[e];exact AF))))).trans (F7.mono (λb _ e=>.inr (.inr (by rw[e];exact AF))))).trans (F8.mono (λb _ e=>.inr (.inl (by rw[e];exact Hy))));obtain⟨M',aX,m1,m2,m3⟩:=tM.dN hJ.h hJ.m ED C8 A8 T8 (λb hb=>.inl hb) (by rw[bE];exact aM _) (mF hJ.js (by rw[fF];exact⟨rfl,rfl,rfl,rfl⟩)) (λk h1 h2=>by rw[bE] at h2;omega)
     have et:r.kY ⟨t,b,n,k,0,v⟩=m.x:=by
      unfold Rd.kY Rd.spot;show r.tr.getD (r.sp.getD t cJ).tr.toNat aK=m.x;rw[hj.out,<-hJ.e];show(ms.map (·.x)).getD j eP.x=m.x;rw[ss,fF]
     have er:r.fe Q i ⟨t,b,n,k,0,v⟩=some ⟨r.sp.set t ⟨(b:Int)+1,-1⟩,r.tr.set j { m.x with dr:=(i:Int),en:=1,bt:=v },r.bY⟩:=by
      unfold Rd.fe;rw[et,if_neg (by rw[Gr.out,wX.out];rintro (h|h);exact h hn.out;exact h nJ.out)];have e8:(r.spot ⟨t,b,n,k,0,v⟩).tr.toNat=j:=by show(r.sp.getD t cJ).tr.toNat=j;rw[hj.out];rfl
      have e9:(r.spot ⟨t,b,n,k,0,v⟩).block=(b:Int):=sW.out;rw[e8,e9,if_neg (show ¬((0:Int)≠0) from λh=>h rfl),if_neg (show ¬((0:Int)≠0) from λh=>h rfl)];rfl
     refine .inl ⟨_,aX,er,rfl,⟨M',_,_,_,m1,m2,?_,m3.Fl hJ.p,?_⟩,m3.dp tk⟩
     ·rw[List.map_set,hJ.e]
     ·refine hJ.k.dN (t:=t) (.inl rfl) ⟨AL,Int.le_refl (-1),by show(-1:Int)<_;omega⟩ ⟨by simp,by have:=hJ.k.l;simp;omega⟩ rfl (λk hk=>?_);have Sf:k<r.tr.length:=by simpa using hk
      clear hk
      by_cases e:k=j
      ·subst e;right;have e7:=ks Sf ({ m.x with dr:=(i:Int),en:=1,bt:=v } : Tr) aK;simp only[] at e7 ⊢;rw[e7];have ha:=hJ.k.a k Sf;have e9:r.tr.getD k aK=m.x:=by rw[<-hJ.e];show(ms.map (·.x)).getD k eP.x=m.x;rw[ss,fF]
       rw[e9] at ha;exact⟨by show m.x.aJ.length<=i+1;omega,by show m.x.gF.length<=i+1;omega,by show(0:Int)<=1;decide,by show(1:Int)<=2;decide⟩
      ·exact .inl ⟨Sf,rH e _ _⟩
    replace hP:=af hP;clear T3 A3 C3 T4 A4 C4 E4 A5 T5 C5 E5 T6 A6 C6 E6 T7 A7 C7 T8 A8 C8 F4 F5 F6 F7 F8 Nk p5 q1 p8 p9 q0 hJ DG;replace fG:=af fG;go_wp2;go_ret;exact hP.out
   ·have YR:(ee != 0)=true:=by simp[bne,h0]
    have T6:=fV (n:=ms.length) T5 (by rw[bE]) js5 8 (by decide) (vI 2) { m with x:={ m.x with dr:=(i:Int),en:=2 } } (by rw[g5];rfl);rw[List.set_set] at T6;have F6:Fr (λk=>k=gt) W5 (W5.setCell ⟨gt,j*10+8,none⟩ (vI 2)):=(Fr.refl (λk=>k=gt) W5).setCell (p:=⟨gt,j*10+8,none⟩) (.inl rfl) _;obtain⟨W6,lQ⟩:=au (W5.setCell ⟨gt,j*10+8,none⟩ (vI 2));rw[lQ] at T6 F6;have A6:=az A5 F6 (λb hb e=>fG (by obtain rfl:=aB.fg hb;exact e));have C6:=C5.fr F6 (λe=>qU e.symm)
    have hP:jm w τ rp i pv Q (r.fe Q i ⟨t,b,n,k,ee,v⟩) (.returned (.bool true)) W6:=by
     have ED:=Nk.trans (F6.mono (λb _ e=>.inr (.inr (by rw[e];exact AF))));obtain⟨M',aX,m1,m2,m3⟩:=tM.dN hJ.h hJ.m ED C6 A6 T6 (λb hb=>.inl hb) (by rw[bE];exact aM _) (mF hJ.js (by rw[fF];exact⟨rfl,rfl,rfl,rfl⟩)) (λk h1 h2=>by rw[bE] at h2;omega)
     have et:r.kY ⟨t,b,n,k,ee,v⟩=m.x:=by
      unfold Rd.kY Rd.spot;show r.tr.getD (r.sp.getD t cJ).tr.toNat aK=m.x;rw[hj.out,<-hJ.e];show(ms.map (·.x)).getD j eP.x=m.x;rw[ss,fF]
     have er:r.fe Q i ⟨t,b,n,k,ee,v⟩=some ⟨r.sp.set t ⟨(r.sp.getD t cJ).block,-1⟩,r.tr.set j { m.x with dr:=(i:Int),en:=2 },r.bY⟩:=by
      unfold Rd.fe;rw[et,if_neg (by rw[Gr.out,wX.out];rintro (h|h);exact h hn.out;exact h nJ.out),if_pos h0];have e8:(r.spot ⟨t,b,n,k,ee,v⟩).tr.toNat=j:=by show(r.sp.getD t cJ).tr.toNat=j;rw[hj.out];rfl
      rw[e8,if_pos h0];rfl
     refine .inl ⟨_,aX,er,rfl,⟨M',_,_,_,m1,m2,?_,m3.Fl hJ.p,?_⟩,m3.dp tk⟩
     ·rw[List.map_set,hJ.e]
     ·refine hJ.k.dN (t:=t) (.inl rfl) ⟨(hJ.k.s t hJ.ts).1,Int.le_refl (-1),by show(-1:Int)<_;omega⟩ ⟨by simp,by have:=hJ.k.l;simp;omega⟩ rfl (λk hk=>?_);have Sf:k<r.tr.length:=by simpa using hk
      clear hk
      by_cases e:k=j
      ·subst e;right;have e7:=ks Sf ({ m.x with dr:=(i:Int),en:=2 } : Tr) aK;simp only[] at e7 ⊢;rw[e7];have ha:=hJ.k.a k Sf;have e9:r.tr.getD k aK=m.x:=by rw[<-hJ.e];show(ms.map (·.x)).getD k eP.x=m.x;rw[ss,fF]
       rw[e9] at ha;exact⟨by show m.x.aJ.length<=i+1;omega,by show m.x.gF.length<=i+1;omega,by show(0:Int)<=2;decide,Int.le_refl 2⟩
      ·exact .inl ⟨Sf,rH e _ _⟩
    replace hP:=af hP;clear T3 A3 C3 T4 A4 C4 E4 A5 T5 C5 E5 T6 A6 C6 F4 F5 F6 Nk p5 q1 p8 hJ DG;replace fG:=af fG;go_wp2;go_ret;exact hP.out
  ·have NZ:(n != (NA:Int))=false:=by simp[hn]
   have Sn:(n != (ND:Int))=true:=by simp[bne,nJ]
   have z3:=vA.out W2 k2;have z4:=(vY 0 _ rfl).1;have z5:=Mp.out W2 k2;have z6:=(vY 1 _ rfl).1;have z7:=Qq.out W2 k2;have hP:Hid (∀W,Calm w W->jm w τ rp i pv Q (r.fe Q i ⟨t,b,n,k,ee,v⟩) (.returned (.bool false)) W):=λW c=>qV.out W c (by unfold Rd.fe;rw[ng.out,Gr.out];exact if_pos (.inr nJ));replace hn:=af hn;replace nJ:=af nJ;go_wp2_with fail
   go_quiet (fail)
   go_wp2;go_ret;exact hP.out _ (k2.trans (aq.drewN nq))
 ·have NZ:(n != (NA:Int))=true:=by simp[bne,hn]
  have hP:Hid (∀W,Calm w W->jm w τ rp i pv Q (r.fe Q i ⟨t,b,n,k,ee,v⟩) (.returned (.bool false)) W):=λW c=>qV.out W c (by unfold Rd.fe;rw[ng.out];exact if_pos (.inl hn));replace hn:=af hn;go_wp2_with fail
  go_quiet (fail)
  go_wp2;go_ret;exact hP.out _ (k2.trans (aq.drewN nq))
end
