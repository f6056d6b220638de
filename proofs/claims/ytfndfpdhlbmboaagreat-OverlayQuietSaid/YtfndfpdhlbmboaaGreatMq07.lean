/-
  The walks of broker.copied, order.copied: entries in memory of their own. Conditions: lists of at most a million.
-/
import Derived.Test.YtfndfpdhlbmboaaGreatMq06
import Derived.Test.YtfndfpdhlbmboaaGreatMqz
set_option maxRecDepth 100000
set_option maxHeartbeats 16000000
set_option linter.all false
namespace Go.Proofs.YtfndfpdhlbmboaaGreat
open Go Go.RowKit _root_.Go.Proofs.Tryz
theorem Uh l v w(h:aq aW l v w)(L:∀x∈l,ew x)(hn:l.length<=1000000) :
 Calls prog 115 #[v] w λe w'=>∃v',e=.returned v'/\aC (λk=>k<w.heap.size) w.heap.size 126 aW l v' w'/\K w w':=by
 obtain⟨A,c,rfl,Q,Y⟩:=h
 have H:=ae L
 have F:=K.rf w
 have hO:=aC.nil (λk=>k<w.heap.size) w.heap.size 126 aW w
 go_in
 go_wp2_with fail
 go_loopw [3,5,8] (fun o _ i W=>∃j:Nat,j<=l.length/\i=.int .i64 j/\aC (fun k=>k<w.heap.size) w.heap.size 126 aW (l.take j) o W/\K w W) (fun _ _ i _=>l.length-(intOf i).toNat)
 case atStart=>exact⟨0,af,rfl,fk,F⟩
 case round =>
  obtain⟨j,U,rfl,hO,kr⟩:=hrel;by_cases hlt:j<l.length
  ·have aO:(j:Int)<l.length:=af;obtain⟨B,C,cs,rfl,V,M,N,d⟩:=ed Q j hlt ax;have HT:Hid (l.take (j+1)=l.take j++[l[j]]):=ae II;have I:=H.aa _ (bT hlt);generalize l[j]=x at *;obtain⟨vf,t,rfl,D,E⟩:=M w (K.rf w);have O:Hid (∀W,K w W->dx x (.agg (aE x vf t)) W):=ae λW k=>⟨_,_,rfl,eu _ _ _ _ D k,bj E k⟩
   have q:∀i,i<8->wr.cell? ⟨B,C+j*8+i,none⟩=(aE x vf t)[i]?:=λi J=>(d wr kr i J).trans Array.getElem?_toList
   have:wr.cell? ⟨B,C+j*8,none⟩=some (.int .i64 x.kind):=N wr kr;have u:=ah.new wr 126 (aE x vf t);have y:=u.aS;obtain⟨Af,X,rfl⟩:=b5 D;obtain⟨T,R,rfl⟩:=av E;go_upto_region 5 with fail;generalize wr.alloc _=G at *;replace hO:=hO.st y;have jh:=kr.tr y;have q:=u.cell;go_wp2_with fail
   apply bN (ab0 x _ G (O.aa _ jh) I);exact ahi
  ·exact LA
theorem abI l v w(h:aq aW l v w)(L:∀x∈l,ew x)(hn:l.length<=1000000) :
 Calls prog 230 #[v] w λe w'=>∃v',e=.returned v'/\aC (λk=>k<w.heap.size) w.heap.size 126 aW l v' w'/\K w w':=by
 obtain⟨A,c,rfl,Q,Y⟩:=h
 have H:=ae L
 have F:=K.rf w
 have hO:=aC.nil (λk=>k<w.heap.size) w.heap.size 126 aW w
 go_in
 go_wp2_with fail
 go_loopw [3,5,8] (fun o _ i W=>∃j:Nat,j<=l.length/\i=.int .i64 j/\aC (fun k=>k<w.heap.size) w.heap.size 126 aW (l.take j) o W/\K w W) (fun _ _ i _=>l.length-(intOf i).toNat)
 case atStart=>exact⟨0,af,rfl,fk,F⟩
 case round =>
  obtain⟨j,U,rfl,hO,kr⟩:=hrel;by_cases hlt:j<l.length
  ·have aO:(j:Int)<l.length:=af;obtain⟨B,C,cs,rfl,V,M,N,d⟩:=ed Q j hlt ax;have HT:Hid (l.take (j+1)=l.take j++[l[j]]):=ae II;have I:=H.aa _ (bT hlt);generalize l[j]=x at *;obtain⟨vf,t,rfl,D,E⟩:=M w (K.rf w);have O:Hid (∀W,K w W->dx x (.agg (aE x vf t)) W):=ae λW k=>⟨_,_,rfl,eu _ _ _ _ D k,bj E k⟩
   have q:∀i,i<8->wr.cell? ⟨B,C+j*8+i,none⟩=(aE x vf t)[i]?:=λi J=>(d wr kr i J).trans Array.getElem?_toList
   have:wr.cell? ⟨B,C+j*8,none⟩=some (.int .i64 x.kind):=N wr kr;have u:=ah.new wr 126 (aE x vf t);have y:=u.aS;obtain⟨Af,X,rfl⟩:=b5 D;obtain⟨T,R,rfl⟩:=av E;go_upto_region 5 with fail;generalize wr.alloc _=G at *;replace hO:=hO.st y;have jh:=kr.tr y;have q:=u.cell;go_wp2_with fail
   apply bN (OQ x _ G (O.aa _ jh) I);exact ahi
  ·exact LA
theorem aph l v w(h:aq bZ l v w)(hn:l.length<=1000000000) :
 Calls prog 116 #[v] w λe w'=>∃v',e=.returned v'/\aC (λk=>k<w.heap.size) w.heap.size 26 bZ l v' w'/\K w w':=by
 obtain⟨A,c,rfl,j,-⟩:=h
 apply bN (abX A l.length c _ w (ady j) (Qd l) hn)
 rintro v' w'⟨t,k⟩
 exact⟨v',rfl,⟨l.map fG,fk,aj,λW _=>Pz l W⟩,k⟩
theorem bC.Ed{B}(t:bC B):(∀x∈B.st.list,ew x)/\(∀x∈B.st.prom,ew x)/\(∀x∈B.waits,ew x) :=
 ⟨λx j=>uK (t.dk.inv.zA x j).1,λx j=>uK (t.dk.inv.zB x j).1,λx j=>uK (t.waits x j).1⟩
theorem api{M p B w}(h:bA M p B w)(hG:bC B) :
 Calls prog 58 #[.pointer (some ⟨p.g,0,none⟩)] w λe w'=>∃vl vp va,e=.returned (.agg (cJ B.st vl vp va))/\lG (λk=>k<w.heap.size) B.st vl vp va w'/\K w w':=by
 have je:=hG.Ed
 have:=hG.dk.len
 have C1:=ae λW (k:K w W)=>Uh B.st.list p.vl W (h.bF.at k).list je.1 af
 have C2:=ae λW (k:K w W)=>Uh B.st.prom p.vq W (h.bF.at k).prom je.2.1 af
 have C3:=ae λW (k:K w W)=>aph B.st.ab p.va W (h.bF.at k).ab af
 have q:=h.q
 have hs1:=av h.bF.now.list
 have U:=av h.bF.now.prom
 have fR:=av h.bF.now.ab
 have J:=ah.new w 46 lH
 have I:=J.aS
 obtain⟨g,gl,gd,gr,gt,vd,vr,vp,vh,vl,vq,va,vt,vf,vw,kr⟩:=p
 simp only at q C1 C2 C3 hs1 U fR
 obtain⟨Al,cl,rfl⟩:=hs1
 obtain⟨Aq,cq,rfl⟩:=U
 obtain⟨Aa,ca,rfl⟩:=fR
 generalize hS:B.st=s at *
 have HS:=ae hS
 go_in
 go_upto_region 1 with fail
 generalize w.alloc _=t at *
 generalize dZ:w.heap.size=j at J⊢
 have HG2:=ae dZ
 have T:=λW (k:K t W)=>q W (I.tr k)
 simp only[G0,HS.aa]at T
 go_upto_region 3 with fail
 have qs:=T
 refine dK 23 ?_
 iterate 10 refine ar.i ?_
 refine ar.c (λv W=>aC (λk=>k<t.heap.size) t.heap.size 126 aW s.list v W) (λ_ _ _ h k=>h.st k) (λW kW=>(C1.aa W (I.tr kW)).mono λe Z ⟨F,A,G,H⟩=>⟨F,A,(G.less λk hk=>bw hk kW.size).low kW.size,H⟩) ?_
 iterate 5 refine ar.i ?_
 refine ar.c (λv W=>aC (λk=>k<t.heap.size) t.heap.size 126 aW s.prom v W) (λ_ _ _ h k=>h.st k) (λW kW=>(C2.aa W (I.tr kW)).mono λe Z ⟨F,A,G,H⟩=>⟨F,A,(G.less λk hk=>bw hk kW.size).low kW.size,H⟩) ?_
 iterate 5 refine ar.i ?_
 refine ar.c (λv W=>aC (λk=>k<t.heap.size) t.heap.size 26 bZ s.ab v W) (λ_ _ _ h k=>h.st k) (λW kW=>(C3.aa W (I.tr kW)).mono λe Z ⟨F,A,G,H⟩=>⟨F,A,(G.less λk hk=>bw hk kW.size).low kW.size,H⟩) ?_
 intro V W kW
 conv=>lhs;simp only[aN,aQ,b6,aJ,Nat.reduceAdd]
 intro hA
 obtain⟨e0,A,e2,e3,e4,e5,e6,e7,e8,e9,Q,rN,G4,Dm,JQ,sE,N,e17,e18,e19,e20,e21,O,-⟩:=hA
 obtain⟨y,c1,Y⟩:=Q.slice
 obtain⟨E,c2,JZ⟩:=N.slice
 obtain⟨D,c3,e22⟩:=O.slice
 rw[Y]at Q
 rw[JZ]at N
 rw[e22]at O
 apply aH.pure
 rfl
 simp[aF,List.lookup,ba,e4,Y,JZ,e22,execOp,aG,go_sem]
 try rfl
 have S:=J.ay kW
 have q9:=S.cell
 have z9:=S.frozen
 obtain⟨C,R⟩:∃C,C=World.setCell (World.setCell (World.setCell (World.setCell W ⟨j,0,none⟩ (.int .u64 s.life)) ⟨j,1,none⟩ (.slice y s.list.length c1)) ⟨j,2,none⟩ (.slice E s.prom.length c2)) ⟨j,3,none⟩ (.slice D s.ab.length c3):=⟨_,rfl⟩
 refine aH.skip C rfl (by rw[R];simp[aF,List.lookup,ba,execOp,aG,q9,z9,go_sem]) ?_
 refine aH.nil ?_
 simp only[fT,Act.put,rW,rh,qZ,Nat.reduceAdd,ba]
 have sZ:ah C j 46 (cJ s (.slice y s.list.length c1) (.slice E s.prom.length c2) (.slice D s.ab.length c3)):=by rw[R];exact (((S.aP 0 (.int .u64 s.life)).aP 1 (.slice y s.list.length c1)).aP 2 (.slice E s.prom.length c2)).aP 3 (.slice D s.ab.length c3)
 have u9:ag (λk=>k=j) W C:=by rw[R];exact (((ag.bK (X:=λk=>k=j) rfl 0 (.int .u64 s.life)).tr (ag.bK (X:=λk=>k=j) rfl 1 (.slice y s.list.length c1))).tr (ag.bK (X:=λk=>k=j) rfl 2 (.slice E s.prom.length c2))).tr (ag.bK (X:=λk=>k=j) rfl 3 (.slice D s.ab.length c3))
 have:=J.lt
 have:=HG2.aa
 have hlt:∀k,k<w.heap.size->k<t.heap.size:=λk hk=>af
 have HF:Hid (lG (λk=>k<w.heap.size) s (.slice y s.list.length c1) (.slice E s.prom.length c2) (.slice D s.ab.length c3) C):=ae λW' u =>
  have L:ag (λk=>k<t.heap.size) W W':=(u9.more λk hk=>af).tr (u.more hlt)
  ⟨Q.fx (λ_ h=>h) W' L,N.fx (λ_ h=>h) W' L,O.fx (λ_ h=>h) W' L⟩
 have hK:=u9.k (I.tr kW) λk hk=>af
 have e9:=sZ.cell
 go_wp2
 try rw[ig]
 refine bodyPost_ret (v:=.agg (cJ s (.slice y s.list.length c1) (.slice E s.prom.length c2) (.slice D s.ab.length c3))) (by simp[results,results58,go_sem,e9]) rfl ?_
 exact⟨_,_,_,rfl,HF.aa,hK⟩
theorem aoh{M p B w}(h:bA M p B w)(u:bC B) :
 Calls prog 67 #[.pointer (some ⟨p.g,0,none⟩)] w λe w'=>∃v',e=.returned v'/\aC (λk=>k<w.heap.size) w.heap.size 126 aW B.waits v' w'/\K w w':=by
 have D:=u.Ed
 have E:=u.y5
 have y:=ae (Uh B.waits p.vw w h.bF.now.waits D.2.2 E)
 have q:=h.blk.cell
 have t:=av h.bF.now.waits
 obtain⟨g,gl,gd,gr,gt,vd,vr,vp,vh,vl,vq,va,vt,vf,vw,kr⟩:=p
 simp only at q y t
 obtain⟨F,cl,rfl⟩:=t
 go_in
 go_wp2_with fail
 apply bN y.aa
 rintro I G⟨j,A⟩
 have C:=ae j
 obtain⟨H,c2,rfl⟩:=j.slice
 go_wp2
 go_ret
 exact⟨_,rfl,C.aa,A⟩
def Mt(lo:Nat)(x:aL)(v:Value)(W:World):Prop:=∃vf j,v=.agg (aE x vf j)/\Fx (λk=>k<lo) (λW=>aW.rel x (aE x vf j).toList W) W
theorem WA lo x:∀v w w',Mt lo x v w->Below w.heap.size w w'->Mt lo x v w':=by rintro v w w'⟨vf,j,e,h⟩ k;exact⟨vf,j,e,h.k k⟩
def ZN(lo:Nat)(t:eo)(v:Value)(W:World):Prop:=∃vf j,v=.agg (gP t vf j)/\Fx (λk=>k<lo) (λW=>cW.rel t (gP t vf j).toList W) W
theorem ays lo x:∀v w w',ZN lo x v w->Below w.heap.size w w'->ZN lo x v w':=by rintro v w w'⟨vf,j,e,h⟩ k;exact⟨vf,j,e,h.k k⟩
theorem apj{M p B w}(h:bA M p B w)(G:bC B) :
 Calls prog 66 #[.pointer (some ⟨p.g,0,none⟩)] w λe w'=>∃v',e=.returned v'/\aC (λk=>k<w.heap.size) w.heap.size 128 cW B.aA v' w'/\K w w':=by
 have Y:=ae G.tx.small
 have hn:=G.tx.y6
 have q:=h.blk.cell
 have u:=h.bF.now.aA
 obtain⟨g,gl,gd,gr,gt,vd,vr,vp,vh,vl,vq,va,vt,vf,vw,kr⟩:=p
 simp only at q u
 obtain⟨A,c,rfl,u,hc⟩:=u
 generalize B.aA=l at *
 have Q:=K.rf w
 have hO:=aC.nil (λk=>k<w.heap.size) w.heap.size 128 cW w
 go_in
 go_upto_block 0 with fail
 go_wp2_with fail
 go_loopw [3,5,13] (fun o _ i W=>∃j:Nat,j<=l.length/\i=.int .i64 j/\aC (fun k=>k<w.heap.size) w.heap.size 128 cW (l.take j) o W/\K w W) (fun _ _ i _=>l.length-(intOf i).toNat)
 case atStart=>exact⟨0,af,rfl,fk,Q⟩
 case round =>
  obtain⟨j,hj,rfl,hO,kr⟩:=hrel;by_cases hlt:j<l.length
  ·have aO:(j:Int)<l.length:=af;obtain⟨I,J,cs,rfl,hcl,hrl,d0,d⟩:=ed u j hlt ax;have HT:Hid (l.take (j+1)=l.take j++[l[j]]):=ae II;have pW:=Y.aa _ (bT hlt);generalize l[j]=x at *;obtain⟨vf,E,rfl,L,O⟩:=hrl w (K.rf w);have HE:Hid (∀W,K w W->dx x.e (.agg (aE x.e vf E)) W):=ae λW k=>⟨_,_,rfl,eu _ _ _ _ L k,bj O k⟩
   have q:∀i,i<9->wr.cell? ⟨I,J+j*9+i,none⟩=(gP x vf E)[i]?:=λi hi=>(d wr kr i hi).trans Array.getElem?_toList
   have:wr.cell? ⟨I,J+j*9,none⟩=some (.int .i64 x.e.kind):=d0 wr kr;have y:=ah.new wr 128 (gP x vf E);have H:=y.aS;obtain⟨Af,cf,rfl⟩:=b5 L;obtain⟨Ae,ce,rfl⟩:=av O;go_upto_region 7 with fail;generalize wr.alloc _=C at *;generalize wr.heap.size=g5 at y⊢;replace hO:=hO.st H;have t:=kr.tr H;have q:=y.cells;have X:=hO.blk;obtain⟨Ao,co,rfl⟩:=hO.slice;have:(l.take j).length<=1000000:=aY;generalize l.take j=Z at *;have qs:=q;refine dK 8 ?_;iterate 3 refine ar.i ?_
   refine ar.op (Mt C.heap.size x.e) (WA _ _) (λV W kW hp=>?_) ?_
   ·(try simp only[cz,aN,aQ,bV,bW,aJ]at hp)
    simp[bO,aF,List.lookup,hp,cU,execOp,aG,q,go_sem];apply bN (ab0 x.e _ W (HE.aa _ (t.tr kW)) pW);exact ahj
   iterate 2 refine ar.i ?_
   refine ar.op (ZN C.heap.size x) (ays _ _) (λV W kW hp=>?_) ?_
   ·simp only[cz,aN,aQ,bV,bW,aJ]at hp;obtain⟨⟨oB,oC,U,hF⟩,F,-⟩:=hp;simp[bO,aF,List.lookup,U,F,cU,execOp,aG,cP,go_sem];exact⟨oB,oC,rfl,hF.mono λW h=>by
     obtain⟨jQ,ER,e,T,h2⟩:=h;simp at e;obtain⟨rfl,rfl⟩:=e;exact⟨_,_,rfl,T,h2⟩⟩
   refine ar.row (N:=λk=>k<C.heap.size) (S:=cW) 123 _ 9 104 JO rfl ax _ x rfl rfl (λV W kW hp=>?_) ?_
   ·exact WC
   intro V W kW hA;simp only[aN,aQ,b6,aJ,Nat.reduceAdd]at hA;obtain⟨e0,e1,e2,h3,e4,F,h6,h7,-⟩:=hA;have x9:=hO.st kW;refine aH.push _ _ 123 _ 9 104 JO rfl rfl rfl _ Z x (by simp[aF,List.lookup,e0]) x9 ?_ af (bo t.size kW.size) ?_
   ·simp only[aF,List.lookup];exact h7.less λk hk=>by
     rcases hk with hk|hk
     ·have:=t.size;omega
     ·have:=X k hk;omega
   intro v9 w9 D cd _ R;rw[<- HT.aa]at D;have iR:=(t.tr kW).trans R;obtain⟨A9,c9,rfl⟩:=D.slice;apply aH.pure;rfl;simp[aF,List.lookup,ba,execOp,aG,go_sem];rfl;refine aH.e ?_;go_wp2;go_roundw
   case rel=>exact⟨j+1,af,bD,by simpa only[p8]using D,iR⟩
   case measure=>simp[intOf];omega
  ·exact LA
structure sg(w:World)(T:TypeId)(z:Array Value)(cs:Nat->Value)(Φ:Nat->Array Value->Value->World->Prop)(L:Nat->Bool)(V:Nat->Value)(W:World):Prop where
 k:K w W
 pre:∀j,j<5->L j=true->V j=cs j
 al:L 9=true->∃b,V 9=.pointer (some ⟨b,0,none⟩)/\w.heap.size<=b/\(L 5=false->ah W b T z)
 got:L 5=true->∃xs c lo W1,V 5=.tuple #[.agg xs,c]/\w.heap.size<=lo/\W1.heap.size<=W.heap.size/\Φ lo xs c W/\(L 10=false->K W1 W/\Φ lo xs c W1) /\
  (L 6=true->V 6=.tuple #[.agg xs,c])/\(L 7=true->V 7=.agg xs)/\(L 8=true->V 8=c)/\(L 11=true->V 11=c) /\
  (L 9=true->∃b,V 9=.pointer (some ⟨b,0,none⟩)/\w.heap.size<=b/\(b<lo∨W1.heap.size<=b)/\ah W b T (cond (L 10) xs z))
section
variable {P:Program} {Q:Exit->Act->World->Prop}
theorem tT{L i j}(h:j≠i):upd L i j=L j:=by grind [upd]
theorem yB{V i j v}(h:j≠i):ba V i v j=V j:=by grind [ba]
theorem WD{V i v}:ba V i v i=v:=by grind [ba]
variable {w:World} {T:TypeId} {z:Array Value} {cs:Nat->Value} {Φ:Nat->Array Value->Value->World->Prop} {L:Nat->Bool} {V:Nat->Value} {W:World}
theorem sg.early(h:sg w T z cs Φ L V W) i(u:i<5):sg w T z cs Φ (upd L i) (ba V i (cs i)) W:=by
 refine⟨h.k,λj t hL=>?_,λhL=>?_,λhL=>?_⟩
 ·by_cases e:j=i
  ·grind [upd,ba]
  ·rw[yB e];exact h.pre j t WE
 ·exact ahk
 ·rw[tT af]at hL;obtain⟨xs,c,lo,W1,a⟩:=h.got hL;refine⟨xs,c,lo,W1,?_⟩;simp only[tT (show 10≠i by omega),tT (show 6≠i by omega),tT (show 7≠i by omega),tT (show 8≠i by omega),tT (show 11≠i by omega),tT (show 9≠i by omega),yB (show 5≠i by omega),yB (show 6≠i by omega),yB (show 7≠i by omega),yB (show 8≠i by omega),yB (show 11≠i by omega),yB (show 9≠i by omega)];exact a
theorem sg.call(h:sg w T z cs Φ L V W){W' xs c}(k:K W W')(u:Φ W.heap.size xs c W')(B:L 5=false)(h6:L 6=false)(h7:L 7=false)(h8:L 8=false)(om:L 10=false)(vX:L 11=false):sg w T z cs Φ (upd L 5) (ba V 5 (.tuple #[.agg xs,c])) W':=by
 refine⟨h.k.tr k,λj hj t=>?_,λt=>?_,λ_=>⟨xs,c,W.heap.size,W',WD,h.k.size,aD _,u,λ_=>⟨K.rf _,u⟩,λt=>?_,λt=>?_,λt=>?_,λt=>?_,λt=>?_⟩⟩
 ·exact Qs
 ·rw[tT af]at t;obtain⟨b,e,y,A⟩:=h.al t;grind [upd,ba]
 ·grind [upd,ba]
 ·grind [upd,ba]
 ·grind [upd,ba]
 ·grind [upd,ba]
 ·rw[tT af]at t;obtain⟨b,e,y,A⟩:=h.al t;rw[yB af];have hb:=A B;refine⟨b,e,y,.inl hb.lt,?_⟩;rw[tT af,om];exact hb.ay k
theorem sg.late(h:sg w T z cs Φ L V W) i v(H:i=6∨i=7∨i=8∨i=11)(B:L 5=true)(A:∀xs c,V 5=.tuple #[.agg xs,c]->v=if i=6 then .tuple #[.agg xs,c]else if i=7 then .agg xs else c):sg w T z cs Φ (upd L i) (ba V i v) W:=by
 refine⟨h.k,λj hj hL=>?_,λhL=>?_,λhL=>?_⟩
 ·exact Qs
 ·exact ahk
 ·obtain⟨xs,c,lo,W1,u,E,y,C,D,M,N,F,I,G⟩:=h.got B;have:=A xs c u;refine⟨xs,c,lo,W1,by grind [yB],E,y,C,λt=>D WE,λt=>?_,λt=>?_,λt=>?_,λt=>?_,λt=>?_⟩
  ·grind [upd,ba]
  ·grind [upd,ba]
  ·grind [upd,ba]
  ·grind [upd,ba]
  ·grind [upd,ba]
theorem sg.made(h:sg w T z cs Φ L V W)(C:∀lo xs c W W',Φ lo xs c W->K W W'->Φ lo xs c W')(om:L 10=false):sg w T z cs Φ (upd L 9) (ba V 9 (.pointer (some ⟨W.heap.size,0,none⟩))) (W.alloc (.cells z T)):=by
 have k:=K.new W (.cells z T);have hb:=ah.new W T z;refine⟨h.k.tr k,λj hj u=>?_,λ_=>⟨_,WD,h.k.size,λ_=>hb⟩,λu=>?_⟩
 ·exact Qs
 ·rw[tT af]at u;obtain⟨xs,c,lo,W1,F,D,y,B,A,I,J,E,H,G⟩:=h.got u;refine⟨xs,c,lo,W1,fk,D,bo y k.size,C _ _ _ _ _ B k,λt=>⟨(A om).1.tr k,(A om).2⟩,λt=>?_,λt=>?_,λt=>?_,λt=>?_,λ_=>⟨_,WD,h.k.size,.inr y,?_⟩⟩
  ·grind [upd,ba]
  ·grind [upd,ba]
  ·grind [upd,ba]
  ·grind [upd,ba]
  ·grind [upd,ba]
theorem sg.kept(h:sg w T z cs Φ L V W)(G:∀lo xs c W W',Φ lo xs c W->K W W'->Φ lo xs c W')(hlow:∀lo xs c W W' b,Φ lo xs c W->b<lo->ag (λk=>k=b) W W'->Φ lo xs c W')(C:L 5=true)(h9:L 9=true)(om:L 10=false){W' b xs c}(F:V 5=.tuple #[.agg xs,c])(E:V 9=.pointer (some ⟨b,0,none⟩))(hb:ah W' b T xs)(hg:W.grownBy W' (some b)):sg w T z cs Φ (upd L 10) (ba V 10 undef) W':=by
 have u:ag (λk=>k=b) W W':=ag.eP hg λk e=>aB
 obtain⟨X,c',lo,W1,y,Z,O,Y,D,S,U,N,Q,I⟩:=h.got C;rw[F]at y;injection y with y;simp at y;obtain⟨rfl,rfl⟩:=y;obtain⟨R,t,M,A,-⟩:=I h9;rw[E]at t;injection t with t;injection t with t;injection t with t _;subst t;obtain⟨H,p1⟩:=D om;have:Φ lo xs c W':=by
  rcases A with A|A
  ·grind
  ·exact G _ _ _ _ _ p1 (u.k H λk e=>af)
 refine⟨u.k h.k λk e=>af,λj hj B=>?_,λB=>?_,λB=>?_⟩
 ·exact Qs
 ·grind [upd,ba]
 ·grind [upd,ba]
def Cp:List (List Nat):=[[],[0],[1],[2],[],[3,4],[5],[6],[6],[],[7,9],[8]]
def lC(P:Program)(t:Act)(ops:Array Oper)(j:List (List Nat×List (Nat×Nat)))(i:Nat)(V:Nat->Value)(W:World):Result Next :=
 match ops[i]?,j[i]? with
 | some o,some x=>(execOp (aF x.2 t V) (aG o.op o.type)).run P W
 | _,_=>.halt (.stuck "") W
theorem abJ{id ops A w} T z(cs:Nat->Value)(Φ:Nat->Array Value->Value->World->Prop) B f args
 n (hn:A.tmps.size=n) (hm:P.follows .mixedOrders=true) (hok:rT ops n=true) (hpl:tQ ops B=true) (hsz:ops.size=12) (jy:B.map (·.1)=Cp) (hgd:∀o∈ops.toList,o.guard=none)
 (xw:∀i,i<5->∀V W,K w W->(∀j∈(B.getD i ([],[])).1,V j=cs j)->lC P A ops B i V W=.ok (.value (cs i)) W)
 (hcall:∀V W,K w W->V 3=cs 3->V 4=cs 4->lC P A ops B 5 V W=.ok (.enter f args) W)
 (hC:∀W,K w W->Calls P f args W λe W'=>∃xs c,e=.returned (.tuple #[.agg xs,c])/\Φ W.heap.size xs c W'/\K W W')
 (h6:∀V W v,V 5=v->lC P A ops B 6 V W=.ok (.value v) W)
 (h7:∀V W xs c,V 6=.tuple #[.agg xs,c]->lC P A ops B 7 V W=.ok (.value (.agg xs)) W)
 (h8:∀V W xs c,V 6=.tuple #[.agg xs,c]->lC P A ops B 8 V W=.ok (.value c) W)
 (h9:∀V W,lC P A ops B 9 V W=.ok (.value (.pointer (some ⟨W.heap.size,0,none⟩))) (W.alloc (.cells z T)))
 (om:∀V W b lo xs c W0,V 9=.pointer (some ⟨b,0,none⟩)->V 7=.agg xs->ah W b T z->Φ lo xs c W0->∃W',lC P A ops B 10 V W=.ok .skip W'/\ah W' b T xs/\W.grownBy W' (some b))
 (vX:∀V W c,V 8=c->lC P A ops B 11 V W=.ok (.value c) W)
 (hK:∀lo xs c W W',Φ lo xs c W->K W W'->Φ lo xs c W') (hlow:∀lo xs c W W' b,Φ lo xs c W->b<lo->ag (λk=>k=b) W W'->Φ lo xs c W')
 (fin:∀V W b xs c lo,K w W->(∀j,j<5->V j=cs j)->V 5=.tuple #[.agg xs,c]->V 6=.tuple #[.agg xs,c]->V 7=.agg xs->V 8=c->V 9=.pointer (some ⟨b,0,none⟩)->V 11=c->w.heap.size<=b->ah W b T xs->w.heap.size<=lo->Φ lo xs c W->Q .normal (fT V ops.toList 0 A) W) :
 (Code.region id ops true).wp P Q A w:=by
 have Ml:∀(i:Nat) (o:Oper),ops[i]?=some o->∃x:List Nat×List (Nat×Nat),B[i]?=some x/\∀j∈x.1,j∈ahead o:=by
  intro i o X
  have h3:=List.all_eq_true.1 hpl (o,i) (List.mem_zipIdx_iff_getElem?.2 aB)
  cases J:B[i]? with
  | none=>simp only[J]at h3;cases h3
  | some x =>
   grind
 refine Uc (sg w T z cs Φ) n hn hm hok ⟨(K.rf w).drew,λ_ _ hj=>P4,λhj=>P4,λhj=>P4⟩ ?_ ?_
 ·intro i o X L V W M hcl hal u;have hlt:i<12:=aB;obtain⟨x,J,GH⟩:=Ml i o X;have hgo:=hgd o aB;have hex:execOp (zk ops A V o) o=execOp (aF x.2 A V) (aG o.op o.type):=by
   have h1:=List.all_eq_true.1 hpl (o,i) (List.mem_zipIdx_iff_getElem?.2 aB);simp only[J,dz]at h1;rw[<- Uq];refine execOp_congr o (λcs b e=>aB) λy hy=>?_
   exact afS
  have SI:(execOp (zk ops A V o) o).run P W=lC P A ops B i V W:=by rw[hex];unfold lC;rw[X,J]
  have hw:wants V o=true:=by unfold wants;rw[hgo]
  rw[if_pos hw,SI];have hx1:x.1=Cp.getD i []:=by
   grind
  have C:=λj hj=>hal j (GH j (by rw[hx1];exact hj))
  have Z:∀k o',ops[k]?=some o'->L k=true->∀j∈Cp.getD k [],L j=true:=λk o' oq hk j hj=>by
   obtain⟨y,hy,hya⟩:=Ml k o' oq;have CJ:y.1=Cp.getD k []:=by
    grind
   exact hcl.1 k o' oq hk j (hya j (by rw[CJ];exact hj))
  have hb:∀k,k<12->∀j∈Cp.getD k [],L j=false->L k=false:=λk hk j hj hjL=>by
   cases qL:L k with
   | false=>rfl
   | true =>
    grind
  have S:∀k,k=6∨k=7∨k=8∨k=11∨k=10->(∀j∈Cp.getD k [],L j=true)->L 5=true:=λk hk hj=>by
   have E:=λh=>Z 6 _ (show ops[6]?=some ops[6] by simp) h 5 mX
   have I:=λh=>Z 7 _ (show ops[7]?=some ops[7] by simp) h 6 mX
   have H:=λh=>Z 8 _ (show ops[8]?=some ops[8] by simp) h 6 mX
   rcases hk with rfl|rfl|rfl|rfl|rfl
   ·exact hj 5 mX
   ·exact E (hj 6 mX)
   ·exact E (hj 6 mX)
   ·exact E (H (hj 8 mX))
   ·exact E (I (hj 7 mX))
  have Yw:∀ {xs O:Array Value} {c R:Value},V 5=.tuple #[.agg xs,c]->V 5=.tuple #[.agg O,R]->xs=O/\c=R:=λe e'=>by
   grind
  by_cases hi5:i<5
  ·have hpx:(B.getD i ([],[])).1=Cp.getD i []:=by rw[List.getD_eq_getElem?_getD,J];exact hx1
   rw[xw i hi5 V W u.k λj hj=>by
    rw[hpx]at hj;refine u.pre j ?_ (C j hj);have:i=0∨i=1∨i=2∨i=3∨i=4:=af;rcases this with rfl|rfl|rfl|rfl|rfl <;> simp[Cp]at hj <;> omega]
   exact u.early i hi5
  have hi:i=5∨i=6∨i=7∨i=8∨i=9∨i=10∨i=11:=af;rcases hi with rfl|rfl|rfl|rfl|rfl|rfl|rfl
  ·have l6:=hb 6 af 5 mX M;have l7:=hb 7 af 6 mX l6;have l8:=hb 8 af 6 mX l6;have Y:=hb 10 af 7 mX l7;have l11:=hb 11 af 8 mX l8;rw[hcall V W u.k (u.pre 3 af (C 3 mX)) (u.pre 4 af (C 4 mX))];refine (hC W u.k).mono ?_;rintro e W'⟨xs,c,rfl,Dn,k⟩;exact⟨_,rfl,u.call k Dn M l6 l7 l8 Y l11⟩
  ·have D:=S 6 aj C;rw[h6 V W _ rfl];exact u.late 6 _ aj D λxs c e=>Cd
  ·have D:=S 7 aj C;obtain⟨xs,c,lo,W1,F,-,-,-,-,E,-⟩:=u.got D;rw[h7 V W xs c (E (C 6 mX))];exact u.late 7 _ aj D λO R e=>by rw[(Yw F e).1];rfl
  ·have D:=S 8 aj C;obtain⟨xs,c,lo,W1,F,-,-,-,-,E,-⟩:=u.got D;rw[h8 V W xs c (E (C 6 mX))];exact u.late 8 _ aj D λO R e=>by rw[(Yw F e).2];rfl
  ·have Y:=hb 10 af 9 mX M;rw[h9 V W];exact u.made hK Y
  ·have D:=S 10 aj C;obtain⟨xs,c,lo,W1,F,a1,a2,a3,a4,E,I,H,ND,a9⟩:=u.got D;obtain⟨b,U,aR,hb2,N⟩:=a9 (C 9 mX);rw[M]at N;obtain⟨W',hrun,hb',hg'⟩:=om V W b lo xs c W U (I (C 7 mX)) N a3;rw[hrun];exact u.kept hK hlow D (C 9 mX) M F U hb' hg'
  ·have D:=S 11 aj C;obtain⟨xs,c,lo,W1,F,-,-,-,-,E,I,H,-⟩:=u.got D;rw[vX V W c (H (C 8 mX))];exact u.late 11 _ aj D λO R e=>by rw[(Yw F e).2];rfl
 ·intro V W u;have G:∀j,j<12->decide (j<ops.size)=true:=λj hj=>by rw[hsz];simpa using hj
  obtain⟨xs,c,lo,W1,F,a1,a2,a3,a4,E,I,H,ND,a9⟩:=u.got (G 5 af);obtain⟨b,U,aR,hb2,N⟩:=a9 (G 9 af);rw[G 10 af]at N;exact fin V W b xs c lo u.k (λj hj=>u.pre j hj (G j af)) F (E (G 6 af)) (I (G 7 af)) (H (G 8 af)) U (ND (G 11 af)) aR N a1 a3
end
section
variable {M:Nat->Prop} {p:nE} {B:bf} {w w':World}
theorem bA.log(h:bA M p B w){vd vr d}(t:Sr p.gl p.gd vd vr d w')(u:oy p.gl p.gd p.vd p.vr vd vr w w') :
 bA (λk=>M k∨bu { p with vd:=vd,vr:=vr } k) { p with vd:=vd,vr:=vr } { B with dk:=d } w'/\ag (bu p) w w'/\∀k,bu { p with vd:=vd,vr:=vr } k->bu p k∨w.heap.size<=k:=by
 obtain⟨F,E,C,D,y⟩:=h.apart
 have hn:∀k,bu { p with vd:=vd,vr:=vr } k->bu p k∨w.heap.size<=k:=λk hk=>by
  rcases hk with hk|hk|hk|hk
  ·exact .inl (.inl hk)
  ·exact .inl (.inr (.inl hk))
  ·exact .inl (.inr (.inr (.inl hk)))
  ·exact (u.new k hk).imp (λh=>.inr (.inr (.inr h))) id
 have hz:=u.up.size
 refine⟨⟨h.blk.aX u.up C,t,h.rep.aX u.up D,h.wK.aX u.up y,?_,λk hk=>.inr hk,λk hk=>?_,h.ne⟩,u.up.more λk hk=>.inr (.inr (.inr hk)),hn⟩
 ·have A:=h.bF.to (N:=λk=>M k∨bu { p with vd:=vd,vr:=vr } k) u.up (λk hk=>h.sub k (.inr (.inr (.inr hk)))) λk hk j=>j.elim id λj=>h.sub k ((hn k j).resolve_right af)
  exact A.mono λW d=>⟨d.par,d.ai,d.list,d.prom,d.ab,d.aA,d.fB,d.waits,d.bI⟩
 ·rcases hk with hk|hk
  ·exact bw (h.low k hk) hz
  ·rcases hk with hk|hk|hk|hk
   ·exact bw (h.low k (h.sub k (.inl hk))) hz
   ·exact bw (h.low k (h.sub k (.inr (.inl hk)))) hz
   ·exact bw (h.low k (h.sub k (.inr (.inr (.inl hk))))) hz
   ·exact t.lt k hk
theorem bA.az3(h:bA M p B w){s vl vq va}(E:lG M s vl vq va w) :
 bA M { p with vl:=vl,vq:=vq,va:=va } { B with st:=s } (World.setCell (World.setCell (World.setCell (World.setCell w ⟨p.g,4,none⟩ (.int .u64 s.life)) ⟨p.g,5,none⟩ vl) ⟨p.g,6,none⟩ vq) ⟨p.g,7,none⟩ va):=by
 have g:=h.sub p.g (.inl rfl)
 have t:=h.cell (p':=p) (B':={ B with st:=⟨s.life,B.st.list,B.st.prom,B.st.ab⟩ }) 4 (.int .u64 s.life) (h.blk.aP 4 _) ⟨rfl,rfl,rfl,rfl,rfl,rfl,rfl,rfl⟩ ⟨rfl,rfl⟩ λW u d=>⟨d.par,d.ai,d.list,d.prom,d.ab,d.aA,d.fB,d.waits,d.bI⟩
 have A:lG M s vl vq va _:=E.up (ag.bK (X:=M) g 4 (.int .u64 s.life)) λ_ h=>h
 have y:=t.cell (p':={ p with vl:=vl }) (B':={ B with st:=⟨s.life,s.list,B.st.prom,B.st.ab⟩ }) 5 vl (t.blk.aP 5 _) ⟨rfl,rfl,rfl,rfl,rfl,rfl,rfl,rfl⟩ ⟨rfl,rfl⟩ λW u d=>⟨d.par,d.ai,(A W u).1,d.prom,d.ab,d.aA,d.fB,d.waits,d.bI⟩
 have j:lG M s vl vq va _:=A.up (ag.bK (X:=M) g 5 vl) λ_ h=>h
 have C:=y.cell (p':={ p with vl:=vl,vq:=vq }) (B':={ B with st:=⟨s.life,s.list,s.prom,B.st.ab⟩ }) 6 vq (y.blk.aP 6 _) ⟨rfl,rfl,rfl,rfl,rfl,rfl,rfl,rfl⟩ ⟨rfl,rfl⟩ λW u d=>⟨d.par,d.ai,d.list,(j W u).2.1,d.ab,d.aA,d.fB,d.waits,d.bI⟩
 have D:lG M s vl vq va _:=j.up (ag.bK (X:=M) g 6 vq) λ_ h=>h
 exact C.cell (p':={ p with vl:=vl,vq:=vq,va:=va }) (B':={ B with st:=s }) 7 va (C.blk.aP 7 _) ⟨rfl,rfl,rfl,rfl,rfl,rfl,rfl,rfl⟩ ⟨rfl,rfl⟩ λW u d=>⟨d.par,d.ai,d.list,d.prom,(D W u).2.2,d.aA,d.fB,d.waits,d.bI⟩
end
theorem avJ{d r}(j:tX d r=true):oz (jf d) [bJ r] d.room=(jf ⟨d.eZ++[r],d.room⟩,0):=by
 simp only[tX,dz,decide_eq_true_eq]at j
 have:=Vm j.1
 have:(jf d).length+(frames [bJ r]).length<=d.room:=by
  grind [jf,OZ,frames,BZ]
 unfold oz tj
 grind [tX,oz,jf,bJ,frames]
theorem avK{d r}(t:tX d r=false):(oz (jf d) [bJ r] d.room).1=jf d/\(oz (jf d) [bJ r] d.room).2≠0:=by
 have:¬((bJ r).length<=4000/\ir d.eZ+xP (bJ r)<=d.room):=by grind [tX]
 unfold oz
 grind [bJ,ib,tj,jf,OZ,frames,BZ]
theorem arE{s r}(j:dL r=true)(h:dW s r=none):mA s r=(s,160):=by grind [mA]
theorem acY{s t r}(j:dL r=true)(h:dW s r=some t):mA s r=(t,0):=by grind [mA]
theorem atH{x}(h:dL x=true)(j:jA x):(bJ x).length<=30000:=by
 have:=cS (aZ x.kind) (gH _);have:=cS x.n j.2.1;have:=cS (aZ x.br) (gH _);have:=cS x.life j.2.2.2.2.1;have:=cS x.bY j.2.2.2.2.2;rcases BW h with ⟨hk,-⟩|⟨hk,t,-⟩|⟨hk,-⟩
 ·grind [dL,jA,bJ]
 ·have:=KW t j.2.2.1;have:=cS (ei x.e).length af;rw[adx af];simp only[dq,ij];omega
 ·grind [dL,jA,bJ,fA]
def aze(s:dy)(j:Int)(lo:Nat)(xs:Array Value)(c:Value)(W:World):Prop:=∃vl vp va,xs=cJ s vl vp va/\c=.int .i64 j/\lG (λk=>k<lo) s vl vp va W
theorem KE{M p B w}(h:bA M p B w)(hG:bC B) r u(hr:pQ r u w)(hfit:jA r)(je:ew r.e) :
 Calls prog 200 #[.pointer (some ⟨p.g,0,none⟩),u] w λe w'=>e=.returned (.bool (dB B r).2)/\dE M p (dB B r).1 w w':=by
 have HN:Hid (dB B r=if dL r&&tX B.dk r then (match dW B.st r with
  | none=>(B,false)
  | some t=>({ B with st:=t,dk:=⟨B.dk.eZ++[r],B.dk.room⟩,aA:=if r.kind=2 then fE B.aA (au r.e)else B.aA },true))
  else (B,false)):=ae rfl
 have H:=ae h
 have HX:=ae λk hk=>h.low k (h.sub k hk)
 have HM:=ae h.low
 have C1:=ae λW (k:K w W)=>Vg r u W (QX hr k) hfit
 have Yx:=hG.Ed
 have jd:=hG.dk.len
 have C2:=ae λW (k:K w W)=>avc B.st r (.agg (cJ B.st p.vl p.vq p.va)) u W ⟨_,_,_,rfl,(h.bF.at k).list,(h.bF.at k).prom,(h.bF.at k).ab⟩ (QX hr k) hfit je Yx.1 Yx.2.1 ⟨af,af,af⟩
 have q:=h.q
 have hs1:=av h.bF.now.list
 have fH:=av h.bF.now.prom
 have fR:=av h.bF.now.ab
 have hs4:=av h.bF.now.aA
 obtain⟨vf,ve,rfl,hf,he⟩:=hr
 obtain⟨Af,cf,rfl⟩:=b5 hf
 obtain⟨Ae,ce,rfl⟩:=av he
 have hb:=ah.new w 197 (eY r (.slice Af r.e.f.length cf) (.slice Ae r.e.es.length ce))
 have k1:=hb.aS
 have HGO:=ae hG
 clear hf he Yx jd h hG
 generalize dB B r=R at *
 go_in
 go_upto_region 1 with fail
 generalize w.alloc _=w1 at *
 generalize nF:w.heap.size=ga at hb⊢
 have lL:=ae nF
 clear nF
 have qa:=hb.cell
 go_wp2_with fail
 refine (C1.aa w1 k1).mono ?_
 rintro e w2⟨v2,rfl,eT,k2⟩
 have bB:=k1.tr k2
 have hb2:=hb.ay k2
 clear C1 qa
 have HC:Hid (tR r=if dL r then 0 else 110):=ae rfl
 have HE:Hid (zY r=if dL r then bJ r else []):=ae rfl
 generalize tR r=cc at *
 generalize zY r=eb at *
 cases hok:dL r
 ·have HR:Hid (R=(B,false)):=ae (by rw[HN.aa,hok];rfl);obtain rfl:cc=110:=by rw[HC.aa,hok];rfl
  have HF:=ae (H.aa.n bB);obtain⟨A2,c2,rfl,-⟩:=eT.slice;clear q hb hb2 eT;exact LC
 obtain rfl:cc=0:=by rw[HC.aa,hok];rfl
 obtain rfl:eb=bJ r:=VR
 obtain⟨A2,c2,rfl,-⟩:=eT.slice
 have xU:=ae eT
 have kX:=ae hok
 clear eT HC HE hok
 go_upto_region 4 with fail
 have q2:=λW (k:K w2 W)=>q W (bB.tr k)
 have qb:=hb2.cells
 have C3:=ae λW (k:K w2 W)=>C2.aa W (bB.tr k)
 obtain⟨y,hs'⟩:∃y,y=(mA B.st r).1:=⟨_,rfl⟩
 obtain⟨code,Gd⟩:∃c,c=(mA B.st r).2:=⟨_,rfl⟩
 simp only[<- hs',<- Gd]at C3
 have HST:=ae hs'
 have HCD:=ae Gd
 obtain⟨g,gl,gd,gr,gt,vd,vr,vp,vh,vl,vq,va,vt,U,vw,kr⟩:=p
 simp only at q2 hs1 fH fR hs4 C3
 obtain⟨Q,cl,rfl⟩:=hs1
 obtain⟨Aq,J,rfl⟩:=fH
 obtain⟨Y,E,rfl⟩:=fR
 obtain⟨N,ct,rfl⟩:=hs4
 have wF:=ae hb2
 clear q hb hb2 C2 hs' Gd
 refine abJ 46 lH (λi=>[Value.pointer (some ⟨g,0,none⟩),.pointer (some ⟨g,0,none⟩),.pointer (some ⟨g,4,none⟩),.agg (cJ B.st (.slice Q B.st.list.length cl) (.slice Aq B.st.prom.length J) (.slice Y B.st.ab.length E)),.agg (eY r (.slice Af r.e.f.length cf) (.slice Ae r.e.es.length ce))].getD i undef) (aze y code)
  [([],[]),([0],[(16,0)]),([1],[(17,1)]),([2],[(18,2)]),([],[]),([3,4],[(19,3),(20,4)]),([5],[(21,5)]),([6],[(15,6)]),([6],[(15,6)]),([],[]),([7,9],[(7,9),(22,7)]),([8],[(23,8)])] 269 #[.agg (cJ B.st (.slice Q B.st.list.length cl) (.slice Aq B.st.prom.length J) (.slice Y B.st.ab.length E)),.agg (eY r (.slice Af r.e.f.length cf) (.slice Ae r.e.es.length ce))] 52 rfl cC cC cC rfl rfl ?gd ?pre ?call ?cc ?h6 ?h7 ?h8 ?h9 ?om ?vX ?hk ?hlow ?_
 case gd=>simp
 case pre => intro i hi V W kW hp;have:i=0∨i=1∨i=2∨i=3∨i=4:=af;rcases this with rfl|rfl|rfl|rfl|rfl <;> simp at hp <;> simp[lC,aF,List.lookup,hp,execOp,aG,q2,qb,kW,go_sem]
 case call=>intro V W kW h3 h4;simp at h3 h4;simp[lC,aF,List.lookup,h3,h4,execOp,aG,go_sem]
 case cc => intro W kW;refine (C3.aa W kW).mono ?_;rintro e w3⟨T,L,Ha,rfl,C,k3⟩;exact⟨_,_,rfl,⟨T,L,Ha,rfl,rfl,C⟩,k3⟩
 case h6=>intro V W v h5;simp[lC,aF,List.lookup,h5,execOp,aG,go_sem]
 case h7=>intro V W xs c h5;simp[lC,aF,List.lookup,h5,execOp,aG,go_sem]
 case h8=>intro V W xs c h5;simp[lC,aF,List.lookup,h5,execOp,aG,go_sem]
 case h9=>intro V W;simp[lC,execOp,aG,go_sem]
 case om => rintro V W b lo xs c W0 e9 e7 hb⟨T,L,Ha,rfl,-,C⟩;obtain⟨⟨El,I,rfl⟩,⟨F,G,rfl⟩,O,fa,rfl⟩:=C.sl;have qz:=hb.cell;have zz:=hb.frozen;have u:=ag.sets (X:=λk=>k=b) rfl [.int .u64 y.life,.slice El y.list.length I,.slice F y.prom.length G,.slice O y.ab.length fa] 0 W;exact⟨_,by simp[lC,aF,List.lookup,e9,e7,execOp,aG,qz,zz,go_sem];rfl,FO (us:=[.int .u64 y.life,.slice El y.list.length I,.slice F y.prom.length G,.slice O y.ab.length fa]) hb rfl,⟨u.os,u.tape,u.output,u.size,λk hk hne=>u.block k hk λe=>hne FM⟩⟩
 case vX=>intro V W c h5;simp[lC,aF,List.lookup,h5,execOp,aG,go_sem]
 case hk=>rintro lo xs c W W'⟨T,L,Ha,a2,a3,C⟩ k;exact⟨T,L,Ha,a2,a3,C.k k⟩
 case hlow=>rintro lo xs c W W' b⟨T,L,Ha,a2,a3,C⟩ hb u;exact⟨T,L,Ha,a2,a3,C.up u λk e=>e▸hb⟩
 intro V W b xs c lo kW hcs e5 e6 e7 e8 e9 rN bS hbk hlo Dn
 obtain⟨T,L,Ha,rfl,rfl,C⟩:=Dn
 obtain⟨⟨El,I,rfl⟩,⟨F,G,rfl⟩,O,fa,rfl⟩:=C.sl
 simp only[fT,Act.put,rW,rh,qZ,e5,e6,e7,e8,e9,rN]
 have wN:=bB.tr kW
 cases yg:dW B.st r with
 | none =>
  have HR:Hid (R=(B,false)):=ae (by rw[HN.aa,kX.aa,yg];split <;> rfl);obtain rfl:code=160:=by rw[HCD.aa,arE kX.aa yg]
  have HF:=ae (H.aa.n wN);clear hcs e5 e6 e7 e8 e9 rN hbk C q2 qb C3 yg;exact LC
 | some t =>
  obtain rfl:code=0:=by rw[HCD.aa,acY kX.aa yg]
  obtain rfl:y=t:=by rw[HST.aa,acY kX.aa yg]
  have HR:Hid (R=if tX B.dk r then ({ B with st:=y,dk:=⟨B.dk.eZ++[r],B.dk.room⟩,aA:=if r.kind=2 then fE B.aA (au r.e)else B.aA },true)else (B,false)):=ae (by rw[HN.aa,kX.aa,yg];rfl);have GP:=H.aa.st wN;have D:=K.new W (.cells #[.slice A2 (bJ r).length c2] 94);have az4:∀k,jT gl gd vd vr k->k<w.heap.size:=λk hk=>HX.aa k (.inr (.inr (.inr hk)))
  have mR:=wN.size;have hz1:=k1.size;have mm:Fx (jT gl gd vd vr) (λW'=>aq ki [bJ r] (.slice (some ⟨W.heap.size,0,none⟩) 1 1) W') (W.alloc (.cells #[.slice A2 (bJ r).length c2] 94)):=λW' u=>by
   have hown:=iN (pZ xU.aa (kW.tr D)) u λk hk A=>by have:=(xU.aa.lt k hk).1;have:=az4 k A;omega
   have akz:=(ah.new W 94 #[.slice A2 (bJ r).length c2]).aX u λA=>aB
   refine⟨some ⟨W.heap.size,0,none⟩,1,rfl,⟨[[.slice A2 (bJ r).length c2]],Each.one ⟨_,rfl,eK hown⟩,rfl,λ_=>⟨W.heap.size,0,rfl,akz.lt,λj u hu=>?_⟩⟩,aj⟩;rw[mz,akz.cell j];simpa using hu
  have bS:∀b∈[bJ r],b.length<=1000000000:=λb hb=>by simp at hb;subst hb;exact bo (atH kX.aa hfit) af
  have C4:=ae (apb gl gd vd vr (.slice (some ⟨W.heap.size,0,none⟩) 1 1) (jf B.dk) B.dk.room [bJ r] _ (GP.lg.st D) mm aj bS);have qW:=q2 W kW;have oT:=hbk.ay D;have Sq:=ae (H.aa.st (wN.tr D));have NH:=ae (wN.tr D);have hne:Hid (tX B.dk r=false->(oz (jf B.dk) [bJ r] B.dk.room).1=jf B.dk/\(oz (jf B.dk) [bJ r] B.dk.room).2≠0):=ae avK;have hye:Hid (tX B.dk r=true->oz (jf B.dk) [bJ r] B.dk.room=(jf ⟨B.dk.eZ++[r],B.dk.room⟩,0)):=ae avJ;generalize oz (jf B.dk) [bJ r] B.dk.room=AP at *;obtain⟨al,ac⟩:=AP;have HSS:=ae C;clear GP mm bS C q2 qb C3 hcs e5 e6 e7 e8 e9 rN yg hbk;go_upto_region 7 with fail;go_wp2_with fail
  refine C4.aa.mono ?_;rintro e w6⟨ZP,ZQ,rfl,JG,S⟩;cases mK:tX B.dk r
  ·have fy:Hid (R=(B,false)):=ae ahl;obtain⟨e1,e2⟩:=hne.aa mK;subst e1;obtain⟨b1,b2,b3⟩:=Sq.aa.log (d:=B.dk) JG S;have HF:Hid (dE M ⟨g,gl,gd,gr,gt,vd,vr,vp,vh,.slice Q B.st.list.length cl,.slice Aq B.st.prom.length J,.slice Y B.st.ab.length E,.slice N B.aA.length ct,U,vw,kr⟩ B w w6):=ae (dE.x8 ⟨_,b1,b2,rfl,b3⟩ NH.aa HX.aa);have e3:(ac != 0)=true:=by simpa using e2
   clear b1 b2 b3 JG S C4 qW oT D mK e2;go_wp2;go_ret;exact⟨Lt,by rw[fy.aa];exact HF.aa⟩
  have fy:Hid (R=({ B with st:=y,dk:=⟨B.dk.eZ++[r],B.dk.room⟩,aA:=if r.kind=2 then fE B.aA (au r.e)else B.aA },true)):=ae ahl;obtain⟨rfl,rfl⟩:=Prod.mk.inj (hye.aa mK);obtain⟨b1,b2,b3⟩:=Sq.aa.log (d:=⟨B.dk.eZ++[r],B.dk.room⟩) JG S;have hz2:=bB.size;have nF:=lL.aa;have hs6:lG (λk=>M k∨bu ⟨g,gl,gd,gr,gt,ZP,ZQ,vp,vh,.slice Q B.st.list.length cl,.slice Aq B.st.prom.length J,.slice Y B.st.ab.length E,.slice N B.aA.length ct,U,vw,kr⟩ k) y (.slice El y.list.length I) (.slice F y.prom.length G) (.slice O y.ab.length fa) w6:=by
   have h0:=HSS.aa.less λk (hk:k<w2.heap.size)=>bw hk hlo
   refine h0.to (X:=jT gl gd vd vr) ((ag.aU D _).tr S.up) (λk hk=>aB) λk hk A=>?_
   rcases A with A|A
   ·have:=HM.aa k A;omega
   ·rcases b3 k A with A|A
    ·have:=HX.aa k A;omega
    ·have:=D.size;omega
  have akA:=oT.aX S.up λA=>aB
  have jG:=(wF.aa.ay (kW.tr D)).aX S.up λA=>aB
  have Z:=b1.az3 hs6;simp only at Z;have HU6:=ae ((ag.aU NH.aa _).tr b2);have HN6:=ae b3;have q6:=b1.blk.cell;have z6:=b1.blk.frozen;have qs6:=akA.cell;clear b2 b3 hs6 b1 JG S C4 qW oT D hne hye mK;go_upto_region 10 with fail;have u7:=(((ag.bK (X:=λk=>k=g) (W:=w6) rfl 4 (.int .u64 y.life)).tr (ag.bK (X:=λk=>k=g) rfl 5 (.slice El y.list.length I))).tr (ag.bK (X:=λk=>k=g) rfl 6 (.slice F y.prom.length G))).tr (ag.bK (X:=λk=>k=g) rfl 7 (.slice O y.ab.length fa));have eO:=HX.aa g (.inl rfl);have jm:=jG.aX u7 af;generalize World.setCell (World.setCell (World.setCell (World.setCell w6 _ _) _ _) _ _) _ _=w7 at *;have J1:=ae (HU6.aa.tr (u7.more λk hk=>.inl hk));have NI:=ae NH.aa.size;have q7:=jm.cells;clear q6 z6 qs6 akA jG u7 jm;by_cases hk2:r.kind=2;rotate_left
  ·have ZR:Hid (R=({ B with st:=y,dk:=⟨B.dk.eZ++[r],B.dk.room⟩ },true)):=ae (by rw[fy.aa,if_neg hk2]);have jE:(r.kind==2)=false:=by simpa using hk2
   have HF:Hid (dE M ⟨g,gl,gd,gr,gt,vd,vr,vp,vh,.slice Q B.st.list.length cl,.slice Aq B.st.prom.length J,.slice Y B.st.ab.length E,.slice N B.aA.length ct,U,vw,kr⟩ { B with st:=y,dk:=⟨B.dk.eZ++[r],B.dk.room⟩ } w w7):=ae ⟨⟨g,gl,gd,gr,gt,ZP,ZQ,vp,vh,.slice El y.list.length I,.slice F y.prom.length G,.slice O y.ab.length fa,.slice N B.aA.length ct,U,vw,kr⟩,Z,J1.aa,rfl,λk hk=>(HN6.aa k hk).imp id λh=>by have:=NI.aa;omega⟩;have qk:=q7 w7 (K.rf _);clear Z q7 hk2;exact ahm
  have ZR:Hid (R=({ B with st:=y,dk:=⟨B.dk.eZ++[r],B.dk.room⟩,aA:=fE B.aA (au r.e) },true)):=ae (by rw[fy.aa,if_pos hk2]);have qk:=q7 w7 (K.rf _);have C5:=ae λW' (k:K w7 W')=>Pd B.aA (au r.e) (.slice N B.aA.length ct) W' (Z.bF.at k).aA HGO.aa.tx.small HGO.aa.tx.y6
  have qg:=Z.blk.cells;simp only at qg;have HP:=ae Z;clear Z;go_upto_region 11 with fail;clear qk;have qs:=And.intro q7 qg;refine dK 9 ?_;iterate 8 refine ar.i ?_
  refine ar.op (λv W'=>aV w7.heap.size w7.heap.size 128 cW (fE B.aA (au r.e)) v W') (λ_ _ _ h k=>h.st k) (λV W kW hp=>?_) ?_
  ·(try simp only[cz,aN,aQ,bV,bW,aJ]at hp)
   simp[bO,aF,List.lookup,hp,cU,execOp,aG,q7,qg,go_sem];exact ahn
  clear qs;intro V W kW hA;simp only[aN,aQ,b6,aJ,Nat.reduceAdd]at hA;obtain⟨d0,d1,d2,d3,d4,d5,d6,d7,iU,-⟩:=hA;generalize Hd:V 8=v8 at *;have tz:=HP.aa.st kW;have jg:=iU.JP HP.aa.low;obtain⟨A8,c8,rfl⟩:=av iU.aq;have q8:=tz.blk.cell;have z8:=tz.blk.frozen;simp only at q8 z8;iterate 2 (apply aH.pure;rfl;(simp[aF,List.lookup,ba,d0,Hd,execOp,aG,go_sem];rfl))
  refine aH.skip (W.setCell ⟨g,8,none⟩ (.slice A8 (fE B.aA (au r.e)).length c8)) rfl WG ?_;refine aH.e ?_;have E7:=tz.Ms jg;have SJ:=J1.aa.tr (((ag.aU kW _).tr (ag.bK (X:=bu ⟨g,gl,gd,gr,gt,vd,vr,vp,vh,.slice Q B.st.list.length cl,.slice Aq B.st.prom.length J,.slice Y B.st.ab.length E,.slice N B.aA.length ct,U,vw,kr⟩) (.inl rfl) 8 (.slice A8 (fE B.aA (au r.e)).length c8))));have HF:Hid (dE M ⟨g,gl,gd,gr,gt,vd,vr,vp,vh,.slice Q B.st.list.length cl,.slice Aq B.st.prom.length J,.slice Y B.st.ab.length E,.slice N B.aA.length ct,U,vw,kr⟩ { B with st:=y,dk:=⟨B.dk.eZ++[r],B.dk.room⟩,aA:=fE B.aA (au r.e) } w (W.setCell ⟨g,8,none⟩ (.slice A8 (fE B.aA (au r.e)).length c8))):=ae ⟨⟨g,gl,gd,gr,gt,ZP,ZQ,vp,vh,.slice El y.list.length I,.slice F y.prom.length G,.slice O y.ab.length fa,.slice A8 (fE B.aA (au r.e)).length c8,U,vw,kr⟩,E7,SJ,rfl,λk hk=>(HN6.aa k hk).imp id λh=>by have:=NI.aa;omega⟩;clear E7 SJ tz jg iU q8 z8 q7 qg C5 d0 d1 d2 d3 d4 d5 d6 d7 Hd;exact ahm
theorem acp{M p B w}(h:bA M p B w)(j:bC B) x u(C:dx x u w)(hfit:cE x)(X:ew x) :
 Calls prog 138 #[.pointer (some ⟨p.g,0,none⟩),u] w λe w'=>e=.returned (.bool (mD B x).2)/\dE M p (mD B x).1 w w':=by
 have U:=ae λk hk=>h.low k (h.sub k hk)
 have jd:=j.dk.len
 have H:=ae λW (k:K w W) v (S:pQ (mF B.st.list.length x) v W)=>KE (h.st k) j (mF B.st.list.length x) v S ⟨Qt,by simp only[mF];omega,hfit,Qt,AE,AE⟩ X
 have y:=ae λW (k:K w W)=>LR C k
 have q:=h.q
 have D:=av h.bF.now.list
 obtain⟨vf,ve,rfl,I,J⟩:=C
 obtain⟨Y,T,rfl⟩:=b5 I
 obtain⟨Q,L,rfl⟩:=av J
 have hb:=ah.new w 126 (aE x (.slice Y x.f.length T) (.slice Q x.es.length L))
 have F:=hb.aS
 obtain⟨g,gl,gd,gr,gt,vd,vr,vp,vh,vl,vq,va,vt,jQ,vw,kr⟩:=p
 simp only at q D
 obtain⟨Al,cl,rfl⟩:=D
 have N:IntKind.u64.wrap ((B.st.list.length:Int))=(B.st.list.length:Int):=by rw[IntWalk.u64_in _ (by omega)]
 unfold mD
 generalize dB B (mF B.st.list.length x)=R at *
 clear h j I J jd
 go_in
 go_upto_region 1 with fail
 generalize w.alloc _=O at *
 generalize w.heap.size=ga at hb⊢
 have G:=hb.cells
 have A:=λW (k:K O W)=>q W (F.tr k)
 clear q hb
 have qs:=And.intro A (And.intro G N)
 refine dK 10 ?_
 iterate 10 refine ar.i ?_
 clear qs
 intro V W kW hA
 simp only[aN,aQ,b6,aJ,Nat.reduceAdd]at hA
 obtain⟨e0,e1,e2,e3,e4,e5,e6,e7,e8,e9,-⟩:=hA
 have t:=F.tr kW
 refine aH.call _ _ rfl ahg ?_
 refine (H.aa W t _ ?_).mono ?_
 ·obtain⟨Bw,Bz,e,h1,h2⟩:=y.aa W t;exact Qe
 rintro e w5⟨rfl,E⟩
 refine⟨_,rfl,?_⟩
 have Z:=ae (E.x8 t U.aa)
 apply aH.pure
 rfl
 simp[aF,List.lookup,ba,execOp,aG,go_sem]
 rfl
 refine aH.e ?_
 clear E H y A G
 go_wp2
 go_ret
 exact⟨Qr,Z.aa⟩
theorem aew{B r}(h:(dB B r).2=false):(dB B r).1=B:=by
 grind [dB]
theorem avL{B r}(h:r.kind≠2):(dB B r).1.aA=B.aA:=by
 grind [dB]
theorem aoI{M p B w}(h:bA M p B w)(T:bC B) a(G:dJ a) :
 Calls prog 139 #[.pointer (some ⟨p.g,0,none⟩),cA a] w λe w'=>e=.returned (.bool (nN B a).2)/\dE M p (nN B a).1 w w':=by
 have L:Hid (nN B a=if (dB B (ju 4 a)).2 then ({ (dB B (ju 4 a)).1 with aA:=fE (dB B (ju 4 a)).1.aA a },true)else (B,false)):=ae rfl
 have HX:=ae λk hk=>h.low k (h.sub k hk)
 have sD:=ae (@aew B (ju 4 a))
 have N:Hid ((dB B (ju 4 a)).1.aA=B.aA):=ae (avL DY)
 have zD:∀W,pQ (ju 4 a) (.agg (eY (ju 4 a) (.slice none 0 0) (.slice none 0 0))) W:=λW=>⟨_,_,rfl,⟨none,0,rfl,Reads.nil _ _ _ _⟩,gy _ _⟩
 have Z:=ae λW (k:K w W)=>KE (h.st k) T (ju 4 a) _ (zD W) ⟨by simp[ju,bR],DY,FF,G.1,G.2.1,G.2.2⟩ (by simp[ju,ew,dC])
 have Y:=ae T.tx
 have hb:=ah.new w 26 #[.int .i64 a.1,.int .u64 a.2.1,.int .u64 a.2.2]
 have A:=hb.aS
 generalize nN B a=R at *
 generalize dB B (ju 4 a)=NB at *
 obtain⟨j,ok⟩:=NB
 simp only[ju,eY,dC]at Z
 go_in
 go_upto_region 1 with fail
 generalize w.alloc _=w1 at *
 generalize O:w.heap.size=ga at hb⊢
 have Np:=ae O
 have qa:=hb.cell
 go_wp2_with fail
 refine (Z.aa w1 A).mono ?_
 rintro e E⟨rfl,F⟩
 cases ok
 ·have HR:Hid (R=(B,false)):=ae (by rw[L.aa];rfl);obtain rfl:j=B:=sD.aa rfl;have HF:=ae (F.x8 A HX.aa);exact LC
 have HR:Hid (R=({ j with aA:=fE j.aA a },true)):=ae (by rw[L.aa];rfl)
 have O:=Np.aa
 have hb2:=F.keeps hb λhx=>Wz
 obtain⟨p1,y,hu,hg,hn⟩:=F
 have C5:=ae λW (k:K E W)=>Pd j.aA a p1.vt W (y.bF.at k).aA (by rw[N.aa];exact Y.aa.small) (by rw[N.aa];exact Y.aa.y6)
 have U:=av y.bF.now.aA
 have D:=y.q
 have I:=ae y
 have HU:=ae hu
 have E0:=ae hn
 rw[<- BH hg]
 have S:=ae hg
 have Q:=hb2.cells
 obtain⟨H,gl,gd,gr,gt,vd,vr,vp,vh,vl,vq,va,vt,jQ,vw,kr⟩:=p1
 simp only at D C5 U
 obtain⟨At,ct,rfl⟩:=U
 go_upto_region 3 with fail
 have qs:=And.intro D Q
 refine dK 7 ?_
 iterate 6 refine ar.i ?_
 refine ar.op (λv W'=>aV E.heap.size E.heap.size 128 cW (fE j.aA a) v W') (λ_ _ _ h k=>h.st k) (λV W kW hp=>?_) ?_
 ·(try simp only[cz,aN,aQ,bV,bW,aJ]at hp)
  simp[bO,aF,List.lookup,hp,cU,execOp,aG,D,Q,go_sem];exact ahn
 intro V W kW hA
 simp only[aN,aQ,b6,aJ,Nat.reduceAdd]at hA
 obtain⟨d0,d1,d2,d3,d4,d5,J,-⟩:=hA
 generalize Hd:V 6=v8 at *
 have C:=I.aa.st kW
 have jg:=J.JP I.aa.low
 obtain⟨t,u,rfl⟩:=av J.aq
 have q8:=C.blk.cell
 have z8:=C.blk.frozen
 simp only at q8 z8
 iterate 2 (apply aH.pure;rfl;(simp[aF,List.lookup,ba,d0,Hd,execOp,aG,go_sem];rfl))
 refine aH.skip (W.setCell ⟨H,8,none⟩ (.slice t (fE j.aA a).length u)) rfl WG ?_
 refine aH.e ?_
 have E7:=C.Ms jg
 have SJ:=(ag.aU A _).tr (HU.aa.tr (((ag.aU kW _).tr (ag.bK (X:=bu p) (.inl (by have:=BH S.aa;exact this)) 8 (.slice t (fE j.aA a).length u)))))
 have HF:Hid (dE M p { j with aA:=fE j.aA a } w (W.setCell ⟨H,8,none⟩ (.slice t (fE j.aA a).length u))):=ae ⟨⟨H,gl,gd,gr,gt,vd,vr,vp,vh,vl,vq,va,.slice t (fE j.aA a).length u,jQ,vw,kr⟩,E7,SJ,S.aa,λk hk=>(E0.aa k hk).imp id λh=>bo A.size h⟩
 go_wp2
 go_ret
 exact⟨fJ,DZ⟩
def yh:dV eW where
 size:=8
 rel m cs w:=∃t B j y C A,cs=(kj m t B j y C A).toList/\aq ou m.cG t w/\aq aW m.asks B w/\aq aW m.entries j w/\aq aW m.eD y w/\aq bZ m.dF C w/\aq bZ m.ends A w
 len:=by rintro _ _ _⟨t,B,j,y,C,A,rfl,_⟩;rfl
 one:=by rintro x _ _⟨t,B,j,y,C,A,rfl,D,F,G,H,E,h6⟩ u hu;obtain⟨_,_,rfl⟩:=av D;obtain⟨_,_,rfl⟩:=av F;obtain⟨_,_,rfl⟩:=av G;obtain⟨_,_,rfl⟩:=av H;obtain⟨_,_,rfl⟩:=av E;obtain⟨_,_,rfl⟩:=av h6;exact afz
 st:=by rintro _ _ _ _⟨t,B,j,y,C,A,rfl,D,F,G,H,E,h6⟩ k;exact⟨_,_,_,_,_,_,rfl,bj D k,bj F k,bj G k,bj H k,bj E k,bj h6 k⟩
abbrev Dq:Array Value:=#[.int .i64 0,.int .u64 0,.slice none 0 0,.slice none 0 0,.slice none 0 0,.slice none 0 0,.slice none 0 0,.slice none 0 0]
theorem azf W:lI vP (.agg Dq) W:=⟨_,_,_,_,_,_,rfl,gy _ _,gy _ _,gy _ _,gy _ _,gy _ _,gy _ _⟩
theorem Cy.look{l ak W}(h:Cy l ak W) k:lI (((l.find? λp=>decide (p.1=k)).map (·.2)).getD vP) ((cT ak k).getD (.agg Dq)) W:=by
 have key:∀(l:List (Int×eW)) (ak:List (Int×Value)) (i:Nat),Cy l ak W->lI (((l.find? λp=>decide (p.1=k)).map (·.2)).getD vP) (((fW k ak i).map (·.2)).getD (.agg Dq)) W:=by
  intro l
  induction l with
  | nil => intro ak i h;have:ak=[]:=List.eq_nil_of_length_eq_zero h.1;subst this;exact azf W
  | cons q l u =>
   intro ak i h
   cases ak with
   | nil=>have:=h.1;simp at this
   | cons p ak =>
    have t:=h.2 0 aj aj;simp only[List.getElem_cons_zero]at t;have A:Cy l ak W:=⟨by have:=h.1;simpa using this,λj B C=>by
     have:=h.2 (j+1) aB aB;simpa using this⟩
    unfold fW;by_cases e:q.1=k
    ·rw[List.find?_cons_of_pos Lp,if_pos (t.1.trans e)];exact t.2
    ·rw[List.find?_cons_of_neg Lp,if_neg (λy=>e (t.1.symm.trans y))];exact u ak (i+1) A
 exact key l ak 0 h
theorem ajM W:(zeroValue 156).run prog W=.ok (.agg Dq) W:=by rfl
theorem ayt:(prog.info? 156).map (λi=>(i.zero,i.size,i.bytes))=some (some (.agg Dq),8,160):=by rfl
theorem TMs:fS prog 164 156 (.agg Dq) 8 160:=⟨underlying164,ayt,rfl,ax⟩
section
variable {α:Type} {S:dV α} {M N X Y:Nat->Prop} {base:Nat} {e:TypeId} {l:List α} {v:Value} {w w':World}
def ji(M:Nat->Prop)(S:dV α)(l:List α)(v:Value)(w:World):Prop :=
 ∃A c css,v=.slice A l.length c/\l.length<=c/\Reads w w.heap.size S.size A l.length css.flatten/\css.length=l.length/\(l≠[]->0<S.size->∀b j,A=some ⟨b,j,none⟩->¬M b)/\∀W,ag M w W->Each S l css W
theorem ji.aq(h:ji M S l v w):Go.Proofs.YtfndfpdhlbmboaaGreat.aq S l v w:=by obtain⟨A,c,css,rfl,t,u,y,-,j⟩:=h;exact⟨A,c,rfl,⟨css,j w (ag.rf _ _),u⟩,t⟩
theorem ji.slice(h:ji M S l v w):∃A c,v=.slice A l.length c:=av h.aq
theorem ji.st(h:ji M S l v w)(k:K w w'):ji M S l v w':=by obtain⟨A,c,css,rfl,t,y,B,hn,j⟩:=h;exact⟨A,c,css,rfl,t,(y.below k (aD _)).more k.size,B,hn,λW u=>j W ((ag.aU k _).tr u)⟩
theorem ji.to(h:ji M S l v w)(u:ag X w w')(F:∀k,X k->M k)(I:∀k,k<w.heap.size->N k->M k)(T:0<S.size):ji N S l v w':=by
 obtain⟨A,c,css,rfl,R,t,V,hn,P⟩:=h;have Q:Reads w' w'.heap.size S.size A l.length css.flatten:=by
  refine⟨t.1,λE=>?_⟩;obtain⟨b,C,e,hb,O⟩:=t.2 E;refine⟨b,C,e,bw hb u.size,λj x D=>?_⟩;have J:l≠[]:=by intro e;have:=t.1;rw[e]at this;simp only[List.length_nil,Nat.zero_mul]at this;omega
  have y:=hn J T b C e;rw[<- O j x D];exact World.cell?_of_block (u.block b hb λD=>y (F b D))
 exact⟨A,c,css,rfl,R,Q,V,λy G b C H U=>by
  have E:0<css.flatten.length:=by rw[t.1];exact Nat.mul_pos (List.length_pos_iff.2 y) G
  obtain⟨Z,Y,B,hb,-⟩:=t.2 E;rw[H]at B;injection B with B;injection B with e1 e2;subst e1;exact hn y G b C H (I b hb U),λW L=>P W ((u.more F).gq L I)⟩
theorem ji.fx(h:ji M S l v w)(j:0<S.size):Fx M (λW=>Go.Proofs.YtfndfpdhlbmboaaGreat.aq S l v W) w:=λ_ u=>(h.to u (λ_ h=>h) (λ_ _ h=>h) j).aq
theorem ji.nil M(S:dV α) w:ji M S [] (.slice none 0 0) w:=⟨none,0,[],rfl,aD _,Reads.nil _ _ _ _,rfl,λh=>absurd rfl h,λ_ _=>Each.nil _ _⟩
theorem ji.at(h:ji M S l v w) i(B:i<l.length)(I:0<S.size):∃b t c cs,v=.slice (some ⟨b,t,none⟩) l.length c/\¬M b/\cs.length=S.size/\Fx M (λW=>S.rel l[i] cs W) w/\∀W,ag M w W->∀j,j<S.size->W.cell? ⟨b,t+i*S.size+j,none⟩=cs[j]?:=by
 obtain⟨A,c,css,rfl,T,E,R,hn,y⟩:=h;obtain⟨cs,N,G,Q,J⟩:=(y w (ag.rf _ _)).get i B;have D:0<css.flatten.length:=by
  grind
 obtain⟨b,t,rfl,hb,F⟩:=E.2 D;have C:=hn aB I b t rfl;refine⟨b,t,c,cs,rfl,C,G,λW u=>?_,λW u j H=>?_⟩
 ·obtain⟨O,X,L,V,U⟩:=(y W u).get i B;grind
 ·have:=J j H;rw[List.getElem?_eq_getElem (show j<cs.length by omega)]at this⊢;rw[Nat.add_assoc,<- F _ _ this];exact World.cell?_of_block (u.block b hb C)
theorem aC.Hg(h:aC Y base e S l v w)(t:∀k,N k->Y k∨v.ownBlock=some k)(hb:∀k,v.ownBlock=some k->¬N k):ji N S l v w:=by
 obtain⟨css,j,y,A⟩:=h;have B:=j;rcases j.2 with ⟨rfl,D⟩|⟨g,cap,cur,rfl,_,_,hn,_⟩
 ·grind [List.eq_nil_of_length_eq_zero,ji.nil]
 ·refine⟨_,_,css,rfl,hn,Reads.yE B,y,λ_ _ b C e=>?_,λW u=>A W (u.more t)⟩;injection e with e;injection e with e1 e2;subst e1;exact hb g rfl
theorem aoJ{b i u x}(h:w.cell? ⟨b,i,none⟩=some u):(w.setCell ⟨b,i,none⟩ x).cell? ⟨b,i,none⟩=some x:=by
 unfold World.cell? at h⊢
 revert h
 cases hb:w.heap[b]? with
 | none=>simp
 | some o =>
  cases o <;> simp[World.setCell,Array.getElem?_modify,hb]
  grind
theorem Fx.fix(h:Fx M (λW=>aq S l v W) w)(hs:0<S.size)(hS:∀x cs W,S.rel x cs W->cs[0]?≠some (.bool true)):ji M S l v w:=by
 obtain⟨A,c,rfl,⟨css,hE,C⟩,hc⟩:=h.now;have T:l≠[]->0<S.size->∀b E,A=some ⟨b,E,none⟩->¬M b:=by
  rintro y-b E rfl hM
  have hp:=List.length_pos_iff.2 y
  obtain⟨cs,U,N,g3,g4⟩:=hE.get 0 hp
  have G:0<css.flatten.length:=aB
  obtain⟨b',Z,e,hb,Q⟩:=C.2 G
  injection e with e
  injection e with e1 e2
  subst e1 e2
  have V:=Q 0 _ (List.getElem?_eq_getElem G)
  obtain⟨A',c',t,⟨D,B,hR'⟩,-⟩:=h (w.setCell ⟨b,E+0,none⟩ (.bool true)) (ag.bK hM _ _)
  injection t with t _ _
  subst t
  have H:0<D.flatten.length:=aho
  obtain⟨b'',aFf,O,-,L⟩:=hR'.2 H
  injection O with O
  injection O with e1 e2
  subst e1 e2
  have az5:=L 0 _ (List.getElem?_eq_getElem H)
  rw[aoJ V]at az5
  obtain⟨X,f1,f2,f3,f4⟩:=B.get 0 hp
  grind
 refine⟨A,c,css,rfl,hc,C,hE.1,T,λW u=>?_⟩;obtain⟨A',c',t,⟨D,B,hR'⟩,-⟩:=h W u;injection t with t _ _;subst t;by_cases y:l=[]
 ·subst y;have:=hE.1;simp at this;subst this;exact Each.nil _ _
 have hp:=List.length_pos_iff.2 y;have G:0<css.flatten.length:=by rw[C.1];exact Nat.mul_pos hp hs
 have H:0<D.flatten.length:=aho;obtain⟨b,E,rfl,hb,Q⟩:=C.2 G;obtain⟨b',Z,e,hb',L⟩:=hR'.2 H;injection e with e;injection e with e1 e2;subst e1 e2;have heq:css.flatten=D.flatten:=by
  refine List.ext_getElem (by rw[C.1,hR'.1]) λj h1 R=>?_
  have U:=Q j _ (List.getElem?_eq_getElem h1);have N:=L j _ (List.getElem?_eq_getElem R);rw[World.cell?_of_block (u.block b hb (T y hs b E rfl)),U]at N;injection N
 have:css=D:=by
  refine List.ext_getElem (by rw[hE.1,B.1]) λi h1 R=>?_
  obtain⟨cs,J,a2,a3,Y⟩:=hE.get i ahp;obtain⟨X,I,b2,b3,b4⟩:=B.get i ahp;rw[List.getElem?_eq_getElem h1]at J;rw[List.getElem?_eq_getElem R]at I;injection J with J;injection I with I;rw[J,I];refine List.ext_getElem af λj h3 h4=>?_
  have F:=Y j af;have q2:=b4 j af;rw[heq,q2,List.getElem?_eq_getElem h3,List.getElem?_eq_getElem h4]at F;injection F with F;exact F.symm
 rw[this];exact B
end
abbrev Yy(x:lB)(vf:Value):List Value:=[.int .i64 x.cl,.int .u64 (x.sub:Int),vf]
abbrev mG(x:lB)(vf:Value):Array Value:=#[.int .i64 x.cl,.int .u64 (x.sub:Int),vf]
def iz:dV lB where
 size:=3
 rel x cs w:=∃vf,cs=Yy x vf/\eI x.f vf w
 len:=by rintro _ _ _⟨vf,rfl,_⟩;rfl
 one:=by rintro x _ _⟨vf,rfl,A,c,rfl,_⟩ u j;simp at j;rcases j with rfl|rfl|rfl <;> rfl
 st:=by rintro _ _ _ _⟨vf,rfl,h⟩ k;exact⟨vf,rfl,eu _ _ _ _ h k⟩
def sub(x:lB)(v:Value)(w:World):Prop:=∃vf,v=.agg (mG x vf)/\eI x.f vf w
theorem ajN{x v w w'}(h:sub x v w)(k:K w w'):sub x v w':=by obtain⟨vf,rfl,h⟩:=h;exact⟨vf,rfl,eu _ _ _ _ h k⟩
theorem ayu:(prog.info? 246).map (λi=>(i.zero,i.size,i.bytes))=some (some (.agg #[.int .i64 0,.int .u64 0,.slice none 0 0]),3,40):=by rfl
theorem SK:fS prog 132 246 (.agg #[.int .i64 0,.int .u64 0,.slice none 0 0]) 3 40:=⟨underlying132,ayu,rfl,ax⟩
theorem KF{α:Type}(q:α->Bool)(l:List α)(j:Nat)(h:j<l.length):(l.take (j+1)).filter q=(l.take j).filter q++(if q l[j]then [l[j]]else []):=by rw[gg h,List.filter_append];by_cases t:q l[j] <;> simp[t]
theorem Fs M l v q(f:Nat) cs w(h:ji M iz l v w)(hlen:l.length<=1000000)(hf:∀args W,(callFunc f args).run prog W=.ok (.enter f args) W)
 (U:∀W,K w W->∀x∈l,∀u,sub x u W->Calls prog f (#[u]++cs) W λe W'=>e=.returned (.bool (q x))/\K W W') :
 Calls prog 167 #[v,.func (.func f) #[] cs] w λe w'=>∃v',e=.returned v'/\aC M w.heap.size 246 iz (l.filter q) v' w'/\K w w':=by
 have H:=ae h
 have Z:=ae U
 have O:=K.rf w
 have hO:=aC.nil M w.heap.size 246 iz w
 obtain⟨A,c,rfl⟩:=h.slice
 go_in
 go_wp2_with fail
 go_loopw [5,7,10] (fun o _ i W=>∃j:Nat,j<=l.length/\i=.int .i64 j/\aC M w.heap.size 246 iz ((l.take j).filter q) o W/\K w W) (fun _ _ i _=>l.length-(intOf i).toNat)
 case atStart=>exact⟨0,af,rfl,fk,O⟩
 case round =>
  obtain⟨j,hj,rfl,hO,kr⟩:=hrel;by_cases D:j<l.length
  ·have aO:(j:Int)<l.length:=af;obtain⟨b,N,c',cs1,E,s7,hcl,J,d⟩:=H.aa.at j D ax;injection E with E _ e2;subst E e2;have HT:=ae (KF q l j D);have hm:=bT D;generalize l[j]=x at *;obtain⟨vf,rfl,G⟩:=J.now;have Dr:Fx (λk=>M k∨w.heap.size<=k) (λW=>iz.rel x (Value.agg (mG x vf)).cells.toList W) wr:=J.to (X:=λ_=>False) (ag.aU kr _) (λ_ h=>h.elim) λk hk t=>t.resolve_right af
   have dd:∀i,i<3->wr.cell? ⟨b,N+j*3+i,none⟩=(mG x vf)[i]?:=λi hi=>(d wr (ag.aU kr _) i hi).trans Array.getElem?_toList
   have:wr.cell? ⟨b,N+j*3,none⟩=some (.int .i64 x.cl):=dd 0 ax;have t:=ah.new wr 246 (mG x vf);have B:=t.aS;obtain⟨C,y,rfl⟩:=b5 G;have I:=kr.tr B;have V:=hO.st B;have T:=Dr.k B;have C1:=ae (Z.aa _ I x hm (.agg (mG x (.slice C x.f.length y))) ⟨_,rfl,eu _ _ _ _ G (kr.tr B)⟩);go_upto_region 5 with fail;generalize wr.alloc _=w1 at *;have:=t.cell;go_wp2_with fail
   apply cF C1.aa I;intro L F qO;have di:=V.st F;have Y:=T.k F;have:=(t.ay F).cell;cases hq:q x
   ·exact ahq
   have nC:Hid ((l.take (j+1)).filter q=(l.take j).filter q++[x]):=ae WH;have bS:=di.blk;have Q:=ez.new (S:=iz) (e:=246) (v:=.agg (mG x (.slice C x.f.length y))) Y 0 (eE _);have R:=di.st ((K.rf L).al (.cells (mG x (.slice C x.f.length y)) 246));have cO:=qO.tr ((K.rf L).al (.cells (mG x (.slice C x.f.length y)) 246));have G:=lQ q (l.take j);have:(l.take j).length<=1000000:=aY;go_wp2_with (at_builtin;refine jz rfl _ _ 132 rfl _ 3 40 SK rfl rfl R _ rfl x ?p1 ?p2 ?p3 ?_)
   case p1=>exact Q.less λk hk=>ahr
   case p2=>omega
   case p3=>exact cO.size
   exact ahs
  ·exact LA
theorem acq M l v q(f:Nat) cs w(h:ji M cI l v w)(hlen:l.length<=1000000)(hf:∀args W,(callFunc f args).run prog W=.ok (.enter f args) W)
 (Q:∀W,K w W->∀x∈l,∀u,iy x u W->Calls prog f (#[u]++cs) W λe W'=>e=.returned (.bool (q x))/\K W W') :
 Calls prog 170 #[v,.func (.func f) #[] cs] w λe w'=>∃v',e=.returned v'/\aC M w.heap.size 51 cI (l.filter q) v' w'/\K w w':=by
 have H:=ae h
 have T:=ae Q
 have J:=K.rf w
 have hO:=aC.nil M w.heap.size 51 cI w
 obtain⟨A,c,rfl⟩:=h.slice
 go_in
 go_wp2_with fail
 go_loopw [5,7,10] (fun o _ i W=>∃j:Nat,j<=l.length/\i=.int .i64 j/\aC M w.heap.size 51 cI ((l.take j).filter q) o W/\K w W) (fun _ _ i _=>l.length-(intOf i).toNat)
 case atStart=>exact⟨0,af,rfl,fk,J⟩
 case round =>
  obtain⟨j,hj,rfl,hO,kr⟩:=hrel;by_cases y:j<l.length
  ·have aO:(j:Int)<l.length:=af;obtain⟨b,U,c',cs1,C,s7,hcl,D,d⟩:=H.aa.at j y ax;injection C with C _ e2;subst C e2;have HT:=ae (KF q l j y);have hm:=bT y;generalize l[j]=x at *;obtain⟨G,rfl,E⟩:=D.now;have V:Fx (λk=>M k∨w.heap.size<=k) (λW=>cI.rel x [G] W) wr:=D.to (X:=λ_=>False) (ag.aU kr _) (λ_ h=>h.elim) λk hk L=>L.resolve_right af
   have:wr.cell? ⟨b,U+j,none⟩=some G:=by simpa [cI]using d wr (ag.aU kr _) 0 (by decide)
   obtain⟨B,t,rfl⟩:=wY E;have Y:=ae (T.aa _ kr x hm _ (mY _ _ _ _ E kr));go_wp2_with fail
   apply cF Y.aa kr;intro F I qO;have di:=hO.st I;have R:=V.k I;cases hq:q x
   ·exact ahq
   have nC:Hid ((l.take (j+1)).filter q=(l.take j).filter q++[x]):=ae WH;have bS:=di.blk;have N:=ez.new (S:=cI) (e:=51) (v:=.slice B x.length t) R 0 (eE _);have O:=di.st ((K.rf F).al (.cells #[.slice B x.length t] 51));have cO:=qO.tr ((K.rf F).al (.cells #[.slice B x.length t] 51));have:=lQ q (l.take j);have:(l.take j).length<=1000000:=aY;go_wp2_with (at_builtin;refine jz rfl _ _ 37 rfl _ 1 24 Jw rfl rfl O _ rfl x ?p1 ?p2 ?p3 ?_)
   case p1=>exact N.less λk hk=>ahr
   case p2=>omega
   case p3=>exact cO.size
   exact ahs
  ·exact LA
theorem Uv f v w(h:eI f v w)(E:f.length<=1000000) :
 Calls prog 258 #[v] w λe w'=>∃v',e=.returned v'/\fQ w' w.heap.size v' f/\K w w':=by
 obtain⟨A,c,rfl,y⟩:=h
 go_in
 go_wp2_with (at_builtin;refine iM rfl _ _ 53 rfl w.heap.size 73 _ 5 56 TF _ 0 [] rfl (jV _ _ _ _) _ A f.length c (f.flatMap fq) rfl y (Ij f) ?p1 (aD _) ?_)
 case p1=>omega
 intro j t u _ _ B
 have C:=ae (show fQ t w.heap.size j f from u)
 obtain⟨D,c1,rfl,-⟩:=(show fQ t w.heap.size j f from u).slice
 go_wp2
 go_ret
 exact⟨_,rfl,C.aa,B⟩
structure Jb(base lo:Nat)(l:List lB)(v:Value)(css:List (List Value))(j:Nat)(W:World):Prop where
 row:W.ownsRow base 246 3 v l.length css.flatten
 len:css.length=l.length
 a:∀i (h:i<l.length) (h':i<css.length),i<j->∀W',ag (λk=>k<lo∨v.ownBlock=some k) W W'->iz.rel l[i] css[i] W'
 b:∀i (h:i<l.length) (h':i<css.length),j<=i->∀W',ag (λk=>v.ownBlock=some k) W W'->iz.rel l[i] css[i] W'
theorem Jb.st{base lo l v css j W W'}(h:Jb base lo l v css j W)(k:K W W'):Jb base lo l v css j W' :=
 ⟨pZ h.row k,h.len,λi t B y A u=>h.a i t B y A ((ag.aU k _).tr u),λi t B y A u=>h.b i t B y A ((ag.aU k _).tr u)⟩
theorem acZ Y base l v w(h:aC Y base 246 iz l v w)(hlen:l.length<=1000000)(hs:∀x∈l,x.f.length<=1000000) :
 Calls prog 175 #[v] w λe w'=>e=.returned v/\aC (λk=>k<w.heap.size) base 246 iz l v w'/\ag (λk=>v.ownBlock=some k) w w':=by
 have S:=h.blk
 obtain⟨css,H,h2,h3⟩:=h
 have I:Jb base w.heap.size l v css 0 w:=⟨H,h2,λi h B C=>absurd C af,λi h B _ W' u=>(h3 W' (u.more λk hk=>.inr hk)).2 i h B⟩
 have HS:=ae hs
 have V:ag (λk=>v.ownBlock=some k) w w:=ag.rf _ _
 obtain⟨A,c,hv⟩:∃A c,v=.slice A l.length c:=by
  rcases H.2 with ⟨rfl,h0⟩|⟨g,cap,cur,rfl,_⟩
  ·grind
  ·simp
 subst hv
 go_in
 go_wp2_with fail
 go_loopw [3,6] (fun _ i W=>∃j:Nat,j<=l.length/\i=.int .i64 j/\(∃css,Jb base w.heap.size l (.slice A l.length c) css j W)/\ag (fun k=>(Value.slice A l.length c).ownBlock=some k) w W) (fun _ i _=>l.length-(intOf i).toNat)
 case atStart=>exact⟨0,af,rfl,⟨_,I⟩,V⟩
 case round =>
  obtain⟨j,hj,rfl,⟨cs,t⟩,u⟩:=hrel;by_cases N:j<l.length
  ·have aO:(j:Int)<l.length:=af;have hcl:=t.len;have hrel:=t.b j N af (aD _) wr (ag.rf _ _);have Z:=HS.aa _ (bT N);obtain⟨vf,ecs,O⟩:=hrel;obtain⟨g,hA⟩:∃g,A=some ⟨g,0,none⟩:=by
    rcases t.row.2 with ⟨_,h0⟩|⟨g,cap,cur,e,_⟩
    ·omega
    grind
   subst hA;have:=(S g rfl).2;have hz:=u.size;obtain⟨q,z⟩:=Fv t.row;have L:∀c∈cs,c.length=3:=by
    intro c hc;obtain⟨i,C,rfl⟩:=List.mem_iff_getElem.1 hc;by_cases hij:i<j
    ·exact iz.len (t.a i af C hij wr (ag.rf _ _))
    ·exact iz.len (t.b i af C af wr (ag.rf _ _))
   have Mh:=t.row.1;have Q:cs[j]=Yy l[j] vf:=ecs;have q2:wr.cell? ⟨g,j*3+2,none⟩=some vf:=by rw[q _ af,wX 3 cs L j 2 af ax,List.getElem?_eq_getElem (show j<cs.length by omega),Q];rfl
   have I:=ae t;have HCJ:=ae Q;have HL:=ae L;have T:=ae Mh;have:Hid (∀W',eI l[j].f vf W'->iz.rel l[j] (Yy l[j] vf) W'):=ae λW' h=>⟨vf,rfl,h⟩
   have U:=O;obtain⟨Af,cf,rfl⟩:=b5 U;have C1:=ae (Uv l[j].f _ wr O Z);go_wp2_with fail
   apply bN C1.aa;rintro v2 D⟨M,J⟩;have E:=I.aa.st J;have:=(Fv E.row).2;have:D.cell? ⟨g,j*3+2,none⟩=some (.slice Af l[j].f.length cf):=by rw[J.cell (by simp;omega)];exact q2
   have xU:=ae M.rel;obtain⟨G,c2,rfl,-⟩:=M.slice;go_upto_region 5 with fail;have R:=VN E.row (q:=j*3+2) (by rw[T.aa];omega) (.slice G l[j].f.length c2);rw[OX 3 _ cs HL.aa j 2 af ax]at R;have F:ag (λk=>(Value.slice (some ⟨g,0,none⟩) l.length c).ownBlock=some k) D (D.setCell ⟨g,j*3+2,none⟩ (.slice G l[j].f.length c2)):=ag.bK (X:=λk=>(Value.slice (some ⟨g,0,none⟩) l.length c).ownBlock=some k) rfl _ _;have u9:=(u.tr (ag.aU J _)).tr F;have hJ9:Jb base w.heap.size l (.slice (some ⟨g,0,none⟩) l.length c) (cs.set j ((cs[j]).set 2 (.slice G l[j].f.length c2))) (j+1) (D.setCell ⟨g,j*3+2,none⟩ (.slice G l[j].f.length c2)):=by
    refine⟨R,by simp[hcl],λi h B C W' y=>?_,λi h B C W' y=>?_⟩
    ·by_cases e:i=j
     ·subst e;rw[List.getElem_set_self,HCJ.aa];refine⟨_,rfl,xU.aa W' ?_⟩;have u4:=(F.more λk hk=>.inr hk).tr y;exact u4.rI λk H _ _ h4=>by
       grind
     ·rw[List.getElem_set_ne af];exact E.a i h af af W' ((F.more λk hk=>.inr hk).tr y)
    ·rw[List.getElem_set_ne af];exact E.b i h af af W' (F.tr y)
   generalize D.setCell _ _=w3 at *;go_wp2;go_roundw
   case rel=>exact⟨j+1,af,bD,⟨_,hJ9⟩,u9⟩
   case measure=>simp[intOf];omega
  ·have aO:¬(j:Int)<l.length:=af;obtain rfl:j=l.length:=af;have HF:Hid (aC (λk=>k<w.heap.size) base 246 iz l (.slice A l.length c) wr):=ae ⟨cs,t.row,t.len,λW' y=>⟨t.len,λi h B=>t.a i h B h W' y⟩⟩;go_wp2;go_ret;exact⟨rfl,HF.aa,u⟩
theorem Um es v w(h:aq cI es v w)(L:es.length<=1000000)(F:∀e∈es,e.length<=1000000) :
 Calls prog 169 #[v] w λe w'=>∃v',e=.returned v'/\aV w.heap.size w.heap.size 51 cI es v' w'/\K w w':=by
 obtain⟨D,d,rfl,G,J⟩:=h
 have y:=ae F
 have B:=K.rf w
 go_in
 go_wp2_with fail
 go_loopw [3,5,8] (fun o _ i W=>∃j:Nat,j<=es.length/\i=.int .i64 j/\aV w.heap.size w.heap.size 51 cI (es.take j) o W/\K w W) (fun _ _ i _=>es.length-(intOf i).toNat)
 case atStart=>exact⟨0,af,rfl,FR,B⟩
 case round =>
  obtain⟨j,N,rfl,hO,kr⟩:=hrel;by_cases hlt:j<es.length
  ·have t:(j:Int)<es.length:=af;obtain⟨E,A,cs,rfl,M,hcl,⟨C,rfl,iF⟩,hcell⟩:=IU G j hlt ax;have H:wr.cell? ⟨E,A+j,none⟩=some C:=VT;have HT:Hid (es.take (j+1)=es.take j++[es[j]]):=ae II;have O:=y.aa _ (bT hlt);exact aht
  ·have t:¬(j:Int)<es.length:=af;rw[gI af]at hO;have HO:=ae hO;obtain⟨Q,I,rfl,-⟩:=hO.slice;exact Ws
theorem arF a w:Calls prog 265 #[.int .i64 a] w λe w'=>e=.returned (.bool false)/\K w w':=ahu
theorem arG a b w:Calls prog 179 #[.int .i64 a,.int .i64 b] w λe w'=>e=.returned (.int .i64 (i7 a b))/\K w w':=by
 have C1:=ae λa W=>arF a W
 exact ahv
theorem arH a w:Calls prog 266 #[.int .u64 a] w λe w'=>e=.returned (.bool false)/\K w w':=ahu
theorem arI a b w:Calls prog 180 #[.int .u64 a,.int .u64 b] w λe w'=>e=.returned (.int .i64 (i7 a b))/\K w w':=by
 have C1:=ae λa W=>arH a W
 exact ahv
def Hh(l:List Int):Int:=(l.find? λn=>decide (n≠0)).getD 0
theorem azg a b:Hh [a,b]=if a != 0 then a else b:=by
 grind [Hh]
theorem aoi{α:Type}(p:α->Bool)(l:List α)(j:Nat)(t:j<l.length)(h:(l.take j).find? p=none):(l.take (j+1)).find? p=if p l[j]then some l[j]else none:=by rw[gg t,List.find?_append,h];by_cases hp:p l[j] <;> simp[hp]
theorem apk{α:Type}(p:α->Bool)(l:List α)(j:Nat)(x:α)(h:(l.take j).find? p=some x):l.find? p=some x:=by rw[<- List.take_append_drop j l,List.find?_append,h];rfl
theorem atI l v w(h:aq cL l v w)(L:l.length<=1000000):Calls prog 178 #[v] w λe w'=>e=.returned (.int .i64 (Hh l))/\K w w':=by
 obtain⟨A,c,rfl,D,-⟩:=h;have t:=K.rf w;have u:Hid (Hh l=(l.find? λn=>decide (n≠0)).getD 0):=ae rfl;generalize Hh l=R at *;go_in;go_wp2_with fail
 go_loopw [5,8] (fun _ i W=>∃j:Nat,j<=l.length/\i=.int .i64 j/\Hid ((l.take j).find? (fun n=>decide (n≠0))=none)/\K w W) (fun _ i _=>l.length-(intOf i).toNat)
 case atStart=>exact⟨0,af,rfl,ae aj,t⟩
 case round =>
  clear t;obtain⟨j,M,rfl,y,kr⟩:=hrel;by_cases B:j<l.length
  ·have F:(j:Int)<l.length:=af;obtain⟨b,I,rfl,E⟩:=Go.Proofs.YtfndfpdhlbmboaaGreat.ints_at D af;have N:=E wr kr j B;have C:=ae (aoi (λn=>decide (n≠0)) l j B y.aa);have G:=ae (apk (λn=>decide (n≠0)) l (j+1));generalize l[j]=x at *;clear E D;by_cases hx:x=0
   ·have H:Hid ((l.take (j+1)).find? (λn=>decide (n≠0))=none):=ae (by rw[C.aa,hx];simp);subst hx;go_wp2;go_roundw
    case rel=>exact⟨j+1,af,bD,H,kr⟩
    case measure=>simp[intOf];omega
   ·have HE:Hid (R=x):=ae (by rw[u.aa,G.aa x (by rw[C.aa];simp[hx])];rfl);have J:(x != 0)=true:=PK;exact Lw
  ·have F:¬(j:Int)<l.length:=af;have HE:Hid (R=0):=ae (by
    have:=y.aa;rw[gI af]at this;rw[u.aa,this];rfl)
   exact Lw
theorem ac0 s x v vf M g w(h:sub s v w)(hg:ah w g 126 (aE x vf M)) :
 Calls prog 177 #[v,.pointer (some ⟨g,0,none⟩)] w λe w'=>e=.returned (.int .i64 (jr s x))/\K w w':=by
 have HR:Hid (jr s x=Hh [i7 s.cl x.cl,i7 (s.sub:Int) (x.sub:Int)]):=ae (by rw[azg];rfl)
 obtain⟨vs,rfl,I⟩:=h
 obtain⟨A,c,rfl⟩:=b5 I
 have hb:=ah.new w 246 (mG s (.slice A s.f.length c))
 have G:=hb.aS
 have D:=hg.cells
 generalize jr s x=R at *
 clear I hg
 go_in
 go_upto_region 1 with fail
 generalize w.alloc _=L at *
 generalize w.heap.size=S at hb⊢
 have y:=hb.cells
 have u:=λW (k:K L W)=>D W (G.tr k)
 have H:=ae λW=>arG s.cl x.cl W
 have J:=ae λW=>arI (s.sub:Int) (x.sub:Int) W
 have E:=ae λv W (h:aq cL [i7 s.cl x.cl,i7 (s.sub:Int) (x.sub:Int)] v W)=>atI _ v W h aj
 generalize i7 s.cl x.cl=t at *
 generalize i7 (s.sub:Int) (x.sub:Int)=j at *
 generalize Hh [t,j]=O at *
 clear D hb
 have qs:=And.intro y u
 refine OP 13 [([],[]),([0],[(4,0)]),([],[]),([2],[(6,2)]),([1,3],[(5,1),(7,3)]),([],[]),([5],[(9,5)]),([],[]),([7],[(11,7)]),([6,8],[(10,6),(12,8)]),([4,9],[(8,4),(13,9)]),([10],[(14,10)]),([11],[(15,11)])] 16 ?_
 iterate 4 refine ar.i ?_
 refine ar.is (.int .i64 t) (λV W kW hp=>?_) ?_
 ·(try simp only[cz,aN,aQ,bV,bW,aJ]at hp)
  simp[bO,aF,List.lookup,hp,cU,execOp,aG,aJ,y,u,go_sem];apply aI (H.aa W);intro C F;grind
 iterate 4 refine ar.i ?_
 refine ar.is (.int .i64 j) (λV W kW hp=>?_) ?_
 ·(try simp only[cz,aN,aQ,bV,bW,aJ]at hp)
  simp[bO,aF,List.lookup,hp,cU,execOp,aG,aJ,y,u,go_sem];apply aI (J.aa W);intro C F;grind
 refine ar.op (λv W=>aq cL [t,j] v W) (λ_ _ _ h k=>bj h k) (λV W kW hp=>?_) ?_
 ·simp only[cz,aN,aQ,bV,bW,aJ]at hp;simp[bO,aF,List.lookup,hp,cU,execOp,aG,go_sem];exact⟨⟨_,_,rfl,⟨[t,j].map AX,Fw _ _,(Reads.new W [.int .i64 t,.int .i64 j] 3 1 2 rfl).more aj⟩,aj⟩,(K.rf W).al _⟩
 refine ar.is (.int .i64 O) (λV W kW hp=>?_) ?_
 ·simp only[cz,aN,aQ,bV,bW,aJ]at hp;obtain⟨B,-⟩:=hp;obtain⟨U,T,Q⟩:=av B;simp[bO,aF,List.lookup,B,cU,execOp,aG,aJ,go_sem];apply aI (E.aa _ W B);intro C F;grind
 refine ar.i ?_
 clear qs
 intro V W kW hA
 simp only[aN,aQ,b6,aJ,Nat.reduceAdd]at hA
 refine aH.h ?_
 have N:=G.tr kW
 clear hA y u H J E
 go_wp2
 go_ret
 exact⟨fJ,N⟩
section
variable {α:Type} {S:dV α} {Y:Nat->Prop} {base:Nat} {e:TypeId} {l l2:List α} {v:Value} {w w':World} {P:Program}
theorem avM t ty z size bytes(T:fS P t e z size bytes)(Q:S.size=size)(I:aC Y base e S l v w) u(E:ji (λk=>Y k∨v.ownBlock=some k) S l2 u w)
 (M:(l.length+l2.length)*(bytes+1)<=140737488355328) (F:base<=w.heap.size) :
 ∃v' w',(Builtin.append_ #[t,t] ty #[v,u]).run P w=.ok v' w'/\aC Y base e S (l++l2) v' w'/\w.grownBy w' v.ownBlock/\(v'.ownBlock=v.ownBlock∨v'.ownBlock=some w.heap.size)/\Below base w w':=by
 subst Q
 obtain⟨A,c,B,rfl,V,H,W,hn,j⟩:=E
 obtain⟨css,L,U,J⟩:=I
 obtain⟨v',w',O,R,y,N,G⟩:=FK w base t ty e z S.size bytes T v l.length css.flatten L w.heap.size A l2.length c B.flatten H (j w (ag.rf _ _)).ones M F
 refine⟨v',w',O,⟨css++B,aB,aB,λC u=>?_⟩,y,N,G⟩
 have D:=(ag.eP (X:=λk=>Y k∨v.ownBlock=some k) y (λg hg=>.inr hg)).gq u λk hk h=>by
  grind
 exact (J C D).append (j C D)
theorem Uw{ops rest o a Q}(C:o.guard=none) s x t
 (A:o.op=.call { callee:=.builtin .append,args:=#[s,x],argTypes:=#[t,t] })
 z size bytes (T:fS P t e z size bytes) (F:S.size=size) (L:a.eval s=v) (y:aC Y base e S l v w) u (D:a.eval x=u) (j:ji (λk=>Y k∨v.ownBlock=some k) S l2 u w)
 (I:(l.length+l2.length)*(bytes+1)<=140737488355328) (G:base<=w.heap.size)
 (h:∀v' w',aC Y base e S (l++l2) v' w'->w.grownBy w' v.ownBlock->(v'.ownBlock=v.ownBlock∨v'.ownBlock=some w.heap.size)->Below base w w'->wpList P ops Q rest (a.put o.dst v') w') :
 wpList P ops Q (o :: rest) a w:=by
 refine wpList_plain C λK J=>?_
 obtain⟨v',w',E,B,H,M,N⟩:=avM (P:=P) t o.type z size bytes T F y u j I G
 unfold Oper.wp execOp
 simp only[A,resolve,invoke,builtin,Sem.run_bind,Sem.run_pure,Result.andThen_ok,List.map_toArray,jU,List.map_nil,L,D,E]
 exact J _ _ (h v' w' B H M N)
end
theorem atJ P(w:World) T u v(j:v.oneCell'=true):(store ⟨w.heap.size,0,none⟩ v).run P (w.alloc (.cells #[u] T))=.ok () (w.alloc (.cells #[v] T)):=by have hb:=ah.new w T #[u];rw[run_store _ _ _ _ _ j];rw[hb.cell 0,hb.frozen,World.setCell_alloc_new];rfl
theorem atK s v w(h:sub s v w) :
 Calls prog 176 #[v] w λe w'=>e=.returned (.bool true)/\K w w':=by
 obtain⟨vs,rfl,t⟩:=h
 obtain⟨A,c,rfl⟩:=b5 t
 have j:=K.new w (.cells (mG s (.slice A s.f.length c)) 246)
 go_in
 go_wp2
 go_ret
 exact⟨rfl,j⟩
theorem adH s x v vf t g gf w(h:sub s v w)(hg:ah w g 126 (aE x vf t))(B:ah w gf 254 #[.func (.func 177) #[] #[.pointer (some ⟨g,0,none⟩)]]) :
 Calls prog 181 #[v,.pointer (some ⟨gf,0,none⟩)] w λe w'=>e=.returned (.bool (decide (jr s x<0)))/\K w w':=by
 have j:=λo=>(K.rf w).al o
 have y:=ae λW (k:K w W)=>ac0 s x v vf t g W (ajN h k) (hg.ay k)
 obtain⟨vs,rfl,D⟩:=h
 obtain⟨A,c,rfl⟩:=b5 D
 have hb:=ah.new w 246 (mG s (.slice A s.f.length c))
 replace j:=j (.cells (mG s (.slice A s.f.length c)) 246)
 have u:=B.ay j
 generalize jr s x=R at *
 go_in
 go_upto_region 1 with fail
 generalize w.alloc _=E at *
 have:=hb.cell
 have:=u.cell
 go_wp2_with fail
 apply cF (y.aa E j) j
 intro I H C
 go_wp2
 go_ret
 exact⟨cC,C⟩
theorem adI s x v vf t g gf w(h:sub s v w)(hg:ah w g 126 (aE x vf t))(B:ah w gf 254 #[.func (.func 177) #[] #[.pointer (some ⟨g,0,none⟩)]]) :
 Calls prog 182 #[v,.pointer (some ⟨gf,0,none⟩)] w λe w'=>e=.returned (.bool (decide (0<jr s x)))/\K w w':=by
 have j:=λo=>(K.rf w).al o
 have y:=ae λW (k:K w W)=>ac0 s x v vf t g W (ajN h k) (hg.ay k)
 obtain⟨vs,rfl,D⟩:=h
 obtain⟨A,c,rfl⟩:=b5 D
 have hb:=ah.new w 246 (mG s (.slice A s.f.length c))
 replace j:=j (.cells (mG s (.slice A s.f.length c)) 246)
 have u:=B.ay j
 generalize jr s x=R at *
 go_in
 go_upto_region 1 with fail
 generalize w.alloc _=E at *
 have:=hb.cell
 have:=u.cell
 go_wp2_with fail
 apply cF (y.aa E j) j
 intro I H C
 go_wp2
 go_ret
 exact⟨cC,C⟩
theorem IY{α S}{l:List α}{v w}(h:aq S l v w):ji (λk=>w.heap.size<=k) S l v w:=by
 obtain⟨A,c,rfl,⟨css,j,t⟩,D⟩:=h
 refine⟨A,c,css,rfl,D,t,j.1,λy B b F e hb=>?_,λW u=>j.st ⟨u.os,u.tape,u.output,u.size,λk hk=>u.block k hk af⟩⟩
 have C:0<css.flatten.length:=by rw[j.Gj];exact Nat.mul_pos (List.length_pos_iff.2 y) B
 obtain⟨H,I,E,G,-⟩:=t.2 C
 grind
theorem Ir{l:List lB}{q}(j:∀s∈l,s.f.length<=1000000):∀s∈l.filter q,s.f.length<=1000000:=λs h=>j s (List.mem_filter.1 h).1
theorem acr l x v vx w(h:aq iz l v w)(hx:dx x vx w)(hlen:l.length<=400000)(j:∀s∈l,s.f.length<=1000000)(hxs:x.f.length<=1000000) :
 Calls prog 105 #[v,vx] w λe w'=>∃v',e=.returned v'/\aC (λk=>k<w.heap.size) w.heap.size 246 iz (tS l x) v' w'/\K w w':=by
 have HR:Hid (tS l x=if x.kind=2 then l.filter (λs=>decide (jr s x<0))++[⟨x.cl,x.sub,x.f⟩]++l.filter (λs=>decide (0<jr s x))
  else if x.kind=3 then l.filter (λs=>decide (jr s x<0))++l.filter (λs=>decide (0<jr s x))else l):=ae rfl
 have J:=ae (IY h)
 have T:=ae j
 obtain⟨vf,ve,rfl,hf,he⟩:=hx
 have HF:=ae λW (k:K w W)=>eu _ _ _ _ hf k
 obtain⟨Af,cf,rfl⟩:=b5 hf
 obtain⟨Ae,ce,rfl⟩:=av he
 obtain⟨A,c,rfl⟩:=av h
 have hb:=ah.new w 126 (aE x (.slice Af x.f.length cf) (.slice Ae x.es.length ce))
 have k1:=hb.aS
 generalize tS l x=R at *
 go_in
 go_upto_region 1 with fail
 generalize w.alloc _=F at *
 have hz1:=k1.size
 generalize nF:w.heap.size=lo at hb J hz1⊢
 have lL:=ae nF
 have oM:=hz1
 have:=hb.cell
 by_cases hk:x.kind=2∨x.kind=3
 rotate_left
 ·have fy:Hid (R=l):=ae (by rw[HR.aa,if_neg λh=>hk (.inl h),if_neg λh=>hk (.inr h)]);have hk2:(x.kind != 2)=true:=aB;have jE:(x.kind != 3)=true:=aB;have X:=ae (Fs (λk=>lo<=k) l _ (λ_=>true) 176 #[] F (J.aa.st k1) af (λ_ _=>cC) λW _ s _ u B=>atK s u W B);go_wp2_with fail
  apply rr X.aa k1;intro v2 M Y k2 C;rw[show l.filter (λ_=>true)=l by simp]at Y;have Q:=ae (acZ _ _ l v2 M Y af T.aa);have bS:=Y.blk;obtain⟨A2,c2,rfl⟩:=Y.slice;go_wp2_with fail
  apply aI Q.aa;rintro I⟨bQ,u3⟩;have kF:=u3.k C λk hk=>by have:=(bS k hk).1;have:=lL.aa;omega
  have HO:Hid (aC (λk=>k<lo) lo 246 iz R (.slice A2 l.length c2) I):=ae axe;exact ahw
 have E:=ah.new F 254 #[.func (.func 177) #[] #[.pointer (some ⟨lo,0,none⟩)]]
 have aS:=E.aS
 have:=atJ prog F 254 .nilFunc (.func (.func 177) #[] #[.pointer (some ⟨lo,0,none⟩)]) rfl
 have V:=hb.ay aS
 have C:=k1.tr aS
 have:=aS.size
 rcases hk with hk|hk
 ·have hk2:(x.kind != 2)=false:=FW;have jE:(x.kind==2)=true:=FW;go_upto_region 4 with fail;generalize F.alloc _=M at *;generalize E4:F.heap.size=gf at E⊢;have X:=ae (Fs (λk=>lo<=k) l _ (λs=>decide (jr s x<0)) 181 #[.pointer (some ⟨gf,0,none⟩)] M (J.aa.st C) af (λ_ _=>cC) λW k s _ u B=>adH s x u _ _ lo gf W B (V.ay k) (E.ay k));go_wp2_with fail
  apply bN X.aa;rintro v3 I⟨bQ,y⟩;have Z:=V.ay y;have akC:=E.ay y;have lF:=C.tr y;have iQ:=y.size;obtain⟨A3,c3,rfl⟩:=bQ.slice;have cN:=lQ (λs=>decide (jr s x<0)) l;have q3:=Z.cell;have kA:=K.new I (.cells (mG ⟨x.cl,x.sub,x.f⟩ (.slice Af x.f.length cf)) 246);have cY:=bQ.st kA;have bS:=bQ.blk;have hr:=ez.new (S:=iz) (e:=246) (x:=⟨x.cl,x.sub,x.f⟩) (v:=.agg (mG ⟨x.cl,x.sub,x.f⟩ (.slice Af x.f.length cf))) (w:=I) (N:=λk=>lo<=k) (λW u=>⟨_,rfl,HF.aa W (u.k lF λk hk=>WI)⟩) 0 (eE _);go_wp2_with (at_builtin;refine jz rfl _ _ 132 rfl _ 3 40 SK rfl rfl cY _ rfl ⟨x.cl,x.sub,x.f⟩ ?p1 ?p2 ?p3 ?_)
  case p1=>exact hr.less λk hk=>by rcases hk with hk|hk;exact hk;have:=bS k hk;omega
  case p2=>omega
  case p3=>exact bo iQ kA.size
  intro v5 w5 H qI aki ix;have U:=(y.tr kA).trans ix;have EO:=C.tr U;have akD:=V.ay U;have akE:=E.ay U;have rH:=U.size;obtain⟨t,D⟩:∃t,Hid (t=l.filter (λs=>decide (jr s x<0))++[(⟨x.cl,x.sub,x.f⟩:lB)]):=⟨_,ae rfl⟩;rw[<- D.aa]at H;obtain⟨A5,c5,rfl⟩:=H.slice;have Q:=ae (Fs (λk=>lo<=k) l _ (λs=>decide (0<jr s x)) 182 #[.pointer (some ⟨gf,0,none⟩)] w5 (J.aa.st EO) af (λ_ _=>cC) λW k s _ u B=>adI s x u _ _ lo gf W B (akD.ay k) (akE.ay k));go_upto_region 7 with fail;go_wp2_with fail
  apply bN Q.aa;rintro v6 w6⟨O,G⟩;have Jc:=H.st G;have az6:=lQ (λs=>decide (0<jr s x)) l;have akF:=H.blk;have Rv:=O.blk;have L:ji (λk=>False∨(Value.slice A5 t.length c5).ownBlock=some k) iz (l.filter (λs=>decide (0<jr s x))) v6 w6:=O.Hg (λk hk=>.inl ahx) λk hk hx=>by
   grind
  have km:=Jc.less (Y':=λ_=>False) λ_ h=>h.elim
  have xE:=G.size;have wO:t.length<=400001:=by rw[D.aa,dq];simp;omega
  obtain⟨A6,c6,rfl⟩:=L.slice;go_wp2_with (at_builtin;refine Uw rfl _ _ 132 rfl _ 3 40 SK rfl rfl km _ rfl L ?p1 ?p2 ?_)
  case p1=>omega
  case p2=>omega
  intro v8 w8 iU J3 az7 pU;have fy:Hid (R=t++l.filter (λs=>decide (0<jr s x))):=ae (by rw[HR.aa,D.aa,if_pos hk]);rw[<- fy.aa]at iU;have SL:=(U.tr G).trans pU;have tu:=C.tr SL;have SN:R.length<=1000000:=ahy;have hRs:∀s∈R,s.f.length<=1000000:=by
   rw[fy.aa,D.aa];intro s j;simp only[Co,List.mem_singleton]at j;rcases j with (j|rfl)|j
   ·exact Ir T.aa s j
   ·exact hxs
   ·exact Ir T.aa s j
  exact ahz
 ·have hk2:(x.kind != 2)=true:=FW;have jE:(x.kind==2)=false:=FW;go_upto_region 4 with fail;generalize F.alloc _=M at *;generalize E4:F.heap.size=gf at E⊢;have X:=ae (Fs (λk=>lo<=k) l _ (λs=>decide (jr s x<0)) 181 #[.pointer (some ⟨gf,0,none⟩)] M (J.aa.st C) af (λ_ _=>cC) λW k s _ u B=>adH s x u _ _ lo gf W B (V.ay k) (E.ay k));go_wp2_with fail
  apply bN X.aa;rintro v3 I⟨bQ,y⟩;have Z:=V.ay y;have akC:=E.ay y;have lF:=C.tr y;have iQ:=y.size;obtain⟨t,D⟩:∃t,Hid (t=l.filter (λs=>decide (jr s x<0))):=⟨_,ae rfl⟩;rw[<- D.aa]at bQ;obtain⟨A3,c3,rfl⟩:=bQ.slice;have cN:=lQ (λs=>decide (jr s x<0)) l;have q3:=Z.cell;have EO:=lF;have akF:=bQ.blk;have H:=bQ;generalize A3=A5 at *;generalize c3=c5 at *;have rH:=iQ;have Q:=ae (Fs (λk=>lo<=k) l _ (λs=>decide (0<jr s x)) 182 #[.pointer (some ⟨gf,0,none⟩)] I (J.aa.st EO) af (λ_ _=>cC) λW k s _ u B=>adI s x u _ _ lo gf W B (Z.ay k) (akC.ay k));go_upto_region 7 with fail;go_wp2_with fail
  apply bN Q.aa;rintro v6 w6⟨O,G⟩;have Jc:=H.st G;have az6:=lQ (λs=>decide (0<jr s x)) l;have Rv:=O.blk;have akD:=0;have akE:=0;have L:ji (λk=>False∨(Value.slice A5 t.length c5).ownBlock=some k) iz (l.filter (λs=>decide (0<jr s x))) v6 w6:=O.Hg (λk hk=>.inl ahx) λk hk hx=>by
   grind
  have km:=Jc.less (Y':=λ_=>False) λ_ h=>h.elim
  have xE:=G.size;have wO:t.length<=400001:=by rw[D.aa];omega
  obtain⟨A6,c6,rfl⟩:=L.slice;go_wp2_with (at_builtin;refine Uw rfl _ _ 132 rfl _ 3 40 SK rfl rfl km _ rfl L ?p1 ?p2 ?_)
  case p1=>omega
  case p2=>omega
  intro v8 w8 iU J3 az7 pU;have fy:Hid (R=t++l.filter (λs=>decide (0<jr s x))):=ae (by rw[HR.aa,D.aa,if_neg (by omega),if_pos hk]);rw[<- fy.aa]at iU;have SL:=(y.tr G).trans pU;have tu:=C.tr SL;have SN:R.length<=1000000:=ahy;have hRs:∀s∈R,s.f.length<=1000000:=by
   rw[fy.aa,D.aa];intro s j;rcases List.mem_append.1 j with j|j
   ·exact Ir T.aa s j
   ·exact Ir T.aa s j
  exact ahz
theorem apl a b w :
 Calls prog 350 #[.int .i64 a,.int .i64 b] w λe w'=>e=.returned (.int .i64 (i7 a b))/\w=w':=by
 by_cases h1:a<b
 ·exact ahA
 ·exact ahB
theorem apm a b w :
 Calls prog 351 #[.int .i64 a,.int .i64 b] w λe w'=>e=.returned (.int .i64 (i7 a b))/\w=w':=by
 by_cases h1:a<b
 ·exact ahA
 ·exact ahB
theorem axf a b:(!(Op.bytesLess a.toList b.toList||a.toList==b.toList))=mf b a:=by simp[ae9]
theorem apn a b w :
 Calls prog 352 #[.string a,.string b] w λe w'=>e=.returned (.int .i64 (yS a b))/\w=w':=by
 cases h1:mf a b
 ·have h1':Op.bytesLess a.toList b.toList=false:=h1;cases h2:mf b a
  ·have j:(!(a.toList==b.toList))=false:=ahC;have HE:Hid (yS a b=0):=ae (by simp[yS,h1,h2]);go_in;exact qT
  ·have j:(!(a.toList==b.toList))=true:=ahC;have HE:Hid (yS a b=1):=ae (by simp[yS,h1,h2]);go_in;exact qT
 ·have h1':Op.bytesLess a.toList b.toList=true:=h1;have HE:Hid (yS a b=-1):=ae (by simp[yS,h1]);go_in;exact qT
theorem acs a b w :
 Calls prog 322 #[vv a.1 a.2.1 a.2.2,vv b.1 b.2.1 b.2.2] w λe w'=>e=.returned (.int .i64 (fP a b))/\Below w.heap.size w w':=by
 obtain⟨j,na,B⟩:=a
 obtain⟨y,u,A⟩:=b
 have hb2:Below w.heap.size w ((w.alloc (.cells #[.int .i64 j,.int .i64 na,.string B] 71)).alloc (.cells #[.int .i64 y,.int .i64 u,.string A] 71)):=((cP _ _).alloc (aD _) _).alloc aj _
 have H:=(ah.new w 71 #[.int .i64 j,.int .i64 na,.string B]).alloc (.cells #[.int .i64 y,.int .i64 u,.string A] 71)
 have I:=ah.new (w.alloc (.cells #[.int .i64 j,.int .i64 na,.string B] 71)) 71 #[.int .i64 y,.int .i64 u,.string A]
 have G:Hid (fP (j,na,B) (y,u,A)=if i7 j y != 0 then i7 j y else if i7 na u != 0 then i7 na u else yS B A):=ae rfl
 go_in
 go_wp2
 go_step3
 go_wp2_with fail
 go_step3
 generalize Y:((w.alloc (.cells #[.int .i64 j,.int .i64 na,.string B] 71)).alloc (.cells #[.int .i64 y,.int .i64 u,.string A] 71))=W at *
 have Q:=H.cell 0
 have U:=H.cell 1
 have N:=H.cell 2
 have J:=I.cell 0
 have L:=I.cell 1
 have T:=I.cell 2
 simp at Q U N J L T
 generalize S:i7 j y=D at *
 generalize V:i7 na u=F at *
 generalize R:yS B A=E at *
 have O:=ae S
 have M:=ae V
 have X:=ae R
 go_wp2_with fail
 go_loop [5,7] (fun t i=>∃k:Nat,k<=3/\i=.int .i64 k/\t=.int .i64 0/\Hid ((1<=k->D=0)/\(2<=k->F=0)/\(3<=k->E=0))) (fun _ i=>3-(intOf i).toNat)
 case atStart=>exact⟨0,af,rfl,rfl,ae ⟨af,af,af⟩⟩
 case round =>
  obtain⟨k,hk,rfl,rfl,hf⟩:=hrel;rcases (by omega:k=0∨k=1∨k=2∨k=3)with rfl|rfl|rfl|rfl
  ·go_wp2_with fail
   apply aI (apl j y W);rintro w' rfl;rw[O.aa];by_cases h0:D=0
   ·have C:(D != 0)=false:=LD;have Z:=ae h0;obtain rfl:=h0;go_wp2;go_round
    case rel=>exact⟨1,af,rfl,rfl,ae (by refine⟨?_,?_,?_⟩ <;> first|trivial|(intro _;rfl)|(intro _;exact hf.aa.1 (by omega))|(intro _;exact hf.aa.2.1 (by omega))|omega)⟩
    case measure=>simp[intOf]
   ·have C:(D != 0)=true:=LD;have HE:Hid (fP (j,na,B) (y,u,A)=D):=by have:=G.aa;rw[if_pos C]at this;exact ae this
    exact Qu
  ·go_wp2_with fail
   apply aI (apm na u W);rintro w' rfl;rw[M.aa];by_cases h0:F=0
   ·obtain rfl:=h0;go_wp2;go_round
    case rel=>exact⟨2,af,rfl,rfl,ae (by refine⟨?_,?_,?_⟩ <;> first|trivial|(intro _;rfl)|(intro _;exact hf.aa.1 (by omega))|(intro _;exact hf.aa.2.1 (by omega))|omega)⟩
    case measure=>simp[intOf]
   ·have C:(F != 0)=true:=LD;have HE:Hid (fP (j,na,B) (y,u,A)=F):=by have:=G.aa;rw[if_neg WJ,if_pos C]at this;exact ae this
    exact Qu
  ·have HE:Hid (fP (j,na,B) (y,u,A)=E):=by have:=G.aa;rw[if_neg WJ,if_neg ahD]at this;exact ae this
   go_wp2_with fail
   apply aI (apn B A W);rintro w' rfl;rw[X.aa];by_cases h0:E=0
   ·obtain rfl:=h0;go_wp2;go_round
    case rel=>exact⟨3,af,rfl,rfl,ae (by refine⟨?_,?_,?_⟩ <;> first|trivial|(intro _;rfl)|(intro _;exact hf.aa.1 (by omega))|(intro _;exact hf.aa.2.1 (by omega))|omega)⟩
    case measure=>simp[intOf]
   ·have C:(E != 0)=true:=LD;exact Qu
  ·have HE:Hid (fP (j,na,B) (y,u,A)=0):=by have:=G.aa;rw[if_neg WJ,if_neg ahD,hf.aa.2.2 af]at this;exact ae this
   exact Qu
theorem anY a b w :
 Calls prog 366 #[.string a,.string b] w λe w'=>e=.returned (.bool (preB a b))/\w=w':=by
 by_cases j:b.size<=a.size
 ·have t:(b.size:Int)<=a.size:=af;have HE:Hid (preB a b=((a.extract 0 b.size).toList==b.toList)):=ae (by simp[preB,j]);go_in;exact qT
 ·have t:¬(b.size:Int)<=a.size:=af;have HE:Hid (preB a b=false):=ae (by simp[preB,j]);go_in;exact qT
theorem an3 a b w :
 Calls prog 353 #[.string a,.string b] w λe w'=>e=.returned (.bool (preB a b))/\w=w':=by
 go_in
 go_wp2_with fail
 apply aI (anY a b w)
 rintro w' rfl
 go_wp2
 go_ret
 exact⟨rfl,rfl⟩
theorem Un a b w :
 Calls prog 330 #[vv a.1 a.2.1 a.2.2,vv b.1 b.2.1 b.2.2] w λe w'=>e=.returned (.bool (jK a b))/\Below w.heap.size w w':=by
 obtain⟨y,na,t⟩:=a
 obtain⟨u,A,j⟩:=b
 have hb2:Below w.heap.size w ((w.alloc (.cells #[.int .i64 y,.int .i64 na,.string t] 71)).alloc (.cells #[.int .i64 u,.int .i64 A,.string j] 71)):=((cP _ _).alloc (aD _) _).alloc aj _
 cases h1:(y==2)
 ·have HE:Hid (jK (y,na,t) (u,A,j)=false):=ae (by simp[jK,h1]);go_in;go_wp2;exact Qv
 ·cases h2:(u==2)
  ·have HE:Hid (jK (y,na,t) (u,A,j)=false):=ae (by simp[jK,h2]);go_in;go_wp2;exact Qv
  ·have HE:Hid (jK (y,na,t) (u,A,j)=preB t j):=ae (by simp[jK,h1,h2]);go_in;go_wp2_with fail
   apply aI (an3 t j _);rintro w' rfl;go_wp2;exact Qv
theorem arJ g o w(h:w.cell? ⟨g,0,none⟩=some (.int .i64 o)) :
 Calls prog 323 #[.pointer (some ⟨g,0,none⟩)] w λe w'=>e=.returned (.bool (o==0))/\w=w':=by
 go_in
 go_wp2
 go_ret
 exact⟨rfl,rfl⟩
theorem arK g o w(h:w.cell? ⟨g,0,none⟩=some (.int .i64 o)) :
 Calls prog 324 #[.pointer (some ⟨g,0,none⟩)] w λe w'=>e=.returned (.bool (o != 0))/\w=w':=by
 go_in
 go_wp2
 go_ret
 exact⟨rfl,rfl⟩
theorem arL g o w(h:w.cell? ⟨g,0,none⟩=some (.int .i64 o)) :
 Calls prog 325 #[.pointer (some ⟨g,0,none⟩)] w λe w'=>e=.returned (.bool (decide (o<0)))/\w=w':=by
 go_in
 go_wp2
 go_ret
 exact⟨rfl,rfl⟩
theorem arM g o w(h:w.cell? ⟨g,0,none⟩=some (.int .i64 o)) :
 Calls prog 326 #[.pointer (some ⟨g,0,none⟩)] w λe w'=>e=.returned (.bool (decide (o<=0)))/\w=w':=by
 go_in
 go_wp2
 go_ret
 exact⟨rfl,rfl⟩
theorem arN g o w(h:w.cell? ⟨g,0,none⟩=some (.int .i64 o)) :
 Calls prog 327 #[.pointer (some ⟨g,0,none⟩)] w λe w'=>e=.returned (.bool (decide (0<o)))/\w=w':=by
 go_in
 go_wp2
 go_ret
 exact⟨rfl,rfl⟩
theorem arO g o w(h:w.cell? ⟨g,0,none⟩=some (.int .i64 o)) :
 Calls prog 328 #[.pointer (some ⟨g,0,none⟩)] w λe w'=>e=.returned (.bool (decide (0<=o)))/\w=w':=by
 go_in
 go_wp2
 go_ret
 exact⟨rfl,rfl⟩
theorem arP y gt v(t:cX) w(j:ah w y 71 #[.int .i64 v.1,.int .i64 v.2.1,.string v.2.2])(u:ah w gt 73 #[.string t.1,.int .i64 t.2.1,.int .i64 t.2.2.1,.int .i64 t.2.2.2.1,.string t.2.2.2.2]) :
 Calls prog 329 #[.pointer (some ⟨y,0,none⟩),.pointer (some ⟨gt,0,none⟩)] w λe w'=>e=.returned (.bool (jK v t.2.2))/\Below w.heap.size w w':=by
 obtain⟨s,op,k,n,x⟩:=t
 obtain⟨E,vn,vt⟩:=v
 have C:=j.cell 0
 have D:=j.cell 1
 have F:=j.cell 2
 have G:=u.cell 2
 have A:=u.cell 3
 have B:=u.cell 4
 simp at C D F G A B
 go_in
 go_wp2_with fail
 apply aI (Un (E,vn,vt) (k,n,x) _)
 intro H hb
 go_wp2
 go_ret
 exact⟨rfl,hb⟩
theorem aex t v w :
 Calls prog 302 #[ry t,vv v.1 v.2.1 v.2.2] w λe w'=>e=.returned (.bool (jc t v))/\Below w.heap.size w w':=by
 obtain⟨s,op,k,n,x⟩:=t
 obtain⟨j,vn,vt⟩:=v
 have V:Below w.heap.size w ((w.alloc (.cells #[.string s,.int .i64 op,.int .i64 k,.int .i64 n,.string x] 73)).alloc (.cells #[.int .i64 j,.int .i64 vn,.string vt] 71)):=((cP _ _).alloc (aD _) _).alloc aj _
 have hx:=(ah.new w 73 #[.string s,.int .i64 op,.int .i64 k,.int .i64 n,.string x]).alloc (.cells #[.int .i64 j,.int .i64 vn,.string vt] 71)
 have S:=ah.new (w.alloc (.cells #[.string s,.int .i64 op,.int .i64 k,.int .i64 n,.string x] 73)) 71 #[.int .i64 j,.int .i64 vn,.string vt]
 rw[World.size_alloc]at S
 have hmm:=@run_makeMap prog
 have A:∀W:World,(zeroValue 22).run prog W=.ok .nilFunc W:=λW=>fo
 go_in
 go_wp2_with fail
 apply aI (acs (j,vn,vt) (k,n,x) _)
 intro u C
 generalize ho:fP (j,vn,vt) (k,n,x)=o at *
 have HT:Hid (jc (s,op,k,n,x) (j,vn,vt)=(if op==8 then true else (j==k)&&(if op==1 then o==0 else if op==2 then o != 0 else if op==3 then decide (o<0)else if op==4 then decide (o<=0)
  else if op==5 then decide (0<o)else if op==6 then decide (0<=o)else if op==7 then jK (j,vn,vt) (k,n,x)else false))):=ae (by rw[<- ho];rfl)
 have hlt:w.heap.size+2<=u.heap.size:=by have:=C.size;simp at this;omega
 have hx1:=((hx.ay C).alloc (.cells #[.int .i64 o] 3)).alloc (.map #[] 0)
 have CJ:=((S.ay C).alloc (.cells #[.int .i64 o] 3)).alloc (.map #[] 0)
 have hz1:=(ah.new u 3 #[.int .i64 o]).alloc (.map #[] 0)
 have C:Below w.heap.size w ((u.alloc (.cells #[.int .i64 o] 3)).alloc (.map #[] 0)):=((V.trans (C.mono V.size)).alloc af _).alloc aY _
 have X:=Cr.new (u.alloc (.cells #[.int .i64 o] 3))
 simp only[World.size_alloc]at X
 go_wp2_with (with_reducible refine wV _ rfl (.tmp 13) (.const (.int .i64 1)) (.tmp 14) 286 rfl 3 22 underlying286 underlying3 (u.heap.size+1) _ rfl X 1 rfl _ rfl rfl ?_)
 intro w2 gM L
 have hb2:=C.trans (ku L af C.size)
 have hx2:=hx1.grown L aY
 have hy2:=CJ.grown L aY
 have hz2:=hz1.grown L aj
 go_wp2_with (with_reducible refine wV _ rfl (.tmp 13) (.const (.int .i64 2)) (.tmp 15) 286 rfl 3 22 underlying286 underlying3 (u.heap.size+1) _ rfl gM 2 rfl _ rfl rfl ?_)
 intro w3 eT F
 have Y:=hb2.trans (ku F af hb2.size)
 have fM:=hx2.grown F aY
 have rO:=hy2.grown F aY
 have iQ:=hz2.grown F aj
 go_wp2_with (with_reducible refine wV _ rfl (.tmp 13) (.const (.int .i64 3)) (.tmp 16) 286 rfl 3 22 underlying286 underlying3 (u.heap.size+1) _ rfl eT 3 rfl _ rfl rfl ?_)
 intro w4 fL H
 have Z:=Y.trans (ku H af Y.size)
 have cH:=fM.grown H aY
 have Nv:=rO.grown H aY
 have il:=iQ.grown H aj
 go_wp2_with (with_reducible refine wV _ rfl (.tmp 13) (.const (.int .i64 4)) (.tmp 17) 286 rfl 3 22 underlying286 underlying3 (u.heap.size+1) _ rfl fL 4 rfl _ rfl rfl ?_)
 intro w5 fw I
 have T:=Z.trans (ku I af Z.size)
 have eB:=cH.grown I aY
 have ZF:=Nv.grown I aY
 have rH:=il.grown I aj
 go_wp2_with (with_reducible refine wV _ rfl (.tmp 13) (.const (.int .i64 5)) (.tmp 18) 286 rfl 3 22 underlying286 underlying3 (u.heap.size+1) _ rfl fw 5 rfl _ rfl rfl ?_)
 intro w6 qK G
 have R:=T.trans (ku G af T.size)
 have jw:=eB.grown G aY
 have hy6:=ZF.grown G aY
 have xE:=rH.grown G aj
 go_wp2_with (with_reducible refine wV _ rfl (.tmp 13) (.const (.int .i64 6)) (.tmp 19) 286 rfl 3 22 underlying286 underlying3 (u.heap.size+1) _ rfl qK 6 rfl _ rfl rfl ?_)
 intro w7 GJ J
 have U:=R.trans (ku J af R.size)
 have pP:=jw.grown J aY
 have hy7:=hy6.grown J aY
 have Jp:=xE.grown J aj
 go_wp2_with (with_reducible refine wV _ rfl (.tmp 13) (.const (.int .i64 7)) (.tmp 20) 286 rfl 3 22 underlying286 underlying3 (u.heap.size+1) _ rfl GJ 7 rfl _ rfl rfl ?_)
 intro y B M
 have pU:=U.trans (ku M af U.size)
 have N:=pP.grown M aY
 have Q:=hy7.grown M aY
 have pV:=Jp.grown M aj
 have E:=pV.cell 0
 have x1:=N.cell 1
 have x2:=N.cell 2
 have y0:=Q.cell 0
 simp at E x1 x2 y0
 have A:=A y
 by_cases h8:op=8
 ·have O:(op==8)=true:=by simp[h8]
  have HE:Hid (jc (s,op,k,n,x) (j,vn,vt)=true):=ae (by rw[HT.aa,O];rfl);exact Ce
 by_cases J4:1<=op/\op<=7
 rotate_left
 ·have O:(op==8)=false:=by simp[h8]
  have D:(Instr.lookup 286 (.map (some (u.heap.size+1))) (.int .i64 op) true).run prog y=.ok (.tuple #[.nilFunc,.bool false]) y:=by
   have:=uL underlying286 underlying3 A B op;rw[this];have e:∀i:Int,1<=i->i<=7->(i==op)=false:=λi h1 h2=>aY
   simp[Ee,e]
  have HE:Hid (jc (s,op,k,n,x) (j,vn,vt)=false):=ae (by
   rw[HT.aa,O];have e:∀i:Int,1<=i->i<=7->(op==i)=false:=λi h1 h2=>aY
   simp[e])
  exact Ce
 rcases (by omega:op=1∨op=2∨op=3∨op=4∨op=5∨op=6∨op=7)with rfl|rfl|rfl|rfl|rfl|rfl|rfl
 ·have D:(Instr.lookup 286 (.map (some (u.heap.size+1))) (.int .i64 1) true).run prog y=.ok (.tuple #[Value.func (Fn.func 323) #[] #[Value.pointer (some ⟨u.heap.size,0,none⟩)],.bool true]) y :=
   uL underlying286 underlying3 A B 1
  cases hkk:(j==k)
  ·have HE:Hid (jc (s,1,k,n,x) (j,vn,vt)=false):=ae tP;exact Ce
  ·have HE:Hid (jc (s,1,k,n,x) (j,vn,vt)=(o==0)):=ae tP;go_wp2_with fail
   apply aI (arJ u.heap.size o y E);exact IJ
 ·have D:(Instr.lookup 286 (.map (some (u.heap.size+1))) (.int .i64 2) true).run prog y=.ok (.tuple #[Value.func (Fn.func 324) #[] #[Value.pointer (some ⟨u.heap.size,0,none⟩)],.bool true]) y :=
   uL underlying286 underlying3 A B 2
  cases hkk:(j==k)
  ·have HE:Hid (jc (s,2,k,n,x) (j,vn,vt)=false):=ae tP;exact Ce
  ·have HE:Hid (jc (s,2,k,n,x) (j,vn,vt)=(o != 0)):=ae tP;go_wp2_with fail
   apply aI (arK u.heap.size o y E);exact IJ
 ·have D:(Instr.lookup 286 (.map (some (u.heap.size+1))) (.int .i64 3) true).run prog y=.ok (.tuple #[Value.func (Fn.func 325) #[] #[Value.pointer (some ⟨u.heap.size,0,none⟩)],.bool true]) y :=
   uL underlying286 underlying3 A B 3
  cases hkk:(j==k)
  ·have HE:Hid (jc (s,3,k,n,x) (j,vn,vt)=false):=ae tP;exact Ce
  ·have HE:Hid (jc (s,3,k,n,x) (j,vn,vt)=(decide (o<0))):=ae tP;go_wp2_with fail
   apply aI (arL u.heap.size o y E);exact IJ
 ·have D:(Instr.lookup 286 (.map (some (u.heap.size+1))) (.int .i64 4) true).run prog y=.ok (.tuple #[Value.func (Fn.func 326) #[] #[Value.pointer (some ⟨u.heap.size,0,none⟩)],.bool true]) y :=
   uL underlying286 underlying3 A B 4
  cases hkk:(j==k)
  ·have HE:Hid (jc (s,4,k,n,x) (j,vn,vt)=false):=ae tP;exact Ce
  ·have HE:Hid (jc (s,4,k,n,x) (j,vn,vt)=(decide (o<=0))):=ae tP;go_wp2_with fail
   apply aI (arM u.heap.size o y E);exact IJ
 ·have D:(Instr.lookup 286 (.map (some (u.heap.size+1))) (.int .i64 5) true).run prog y=.ok (.tuple #[Value.func (Fn.func 327) #[] #[Value.pointer (some ⟨u.heap.size,0,none⟩)],.bool true]) y :=
   uL underlying286 underlying3 A B 5
  cases hkk:(j==k)
  ·have HE:Hid (jc (s,5,k,n,x) (j,vn,vt)=false):=ae tP;exact Ce
  ·have HE:Hid (jc (s,5,k,n,x) (j,vn,vt)=(decide (0<o))):=ae tP;go_wp2_with fail
   apply aI (arN u.heap.size o y E);exact IJ
 ·have D:(Instr.lookup 286 (.map (some (u.heap.size+1))) (.int .i64 6) true).run prog y=.ok (.tuple #[Value.func (Fn.func 328) #[] #[Value.pointer (some ⟨u.heap.size,0,none⟩)],.bool true]) y :=
   uL underlying286 underlying3 A B 6
  cases hkk:(j==k)
  ·have HE:Hid (jc (s,6,k,n,x) (j,vn,vt)=false):=ae tP;exact Ce
  ·have HE:Hid (jc (s,6,k,n,x) (j,vn,vt)=(decide (0<=o))):=ae tP;go_wp2_with fail
   apply aI (arO u.heap.size o y E);exact IJ
 ·have D:(Instr.lookup 286 (.map (some (u.heap.size+1))) (.int .i64 7) true).run prog y=.ok (.tuple #[Value.func (Fn.func 329) #[] #[Value.pointer (some ⟨w.heap.size+1,0,none⟩),Value.pointer (some ⟨w.heap.size,0,none⟩)],.bool true]) y :=
   uL underlying286 underlying3 A B 7
  cases hkk:(j==k)
  ·have HE:Hid (jc (s,7,k,n,x) (j,vn,vt)=false):=ae tP;exact Ce
  ·have HE:Hid (jc (s,7,k,n,x) (j,vn,vt)=(jK (j,vn,vt) (k,n,x))):=ae tP;go_wp2_with fail
   apply aI (arP (w.heap.size+1) w.heap.size (j,vn,vt) (s,7,k,n,x) y Q N);intro w9 bq;have JX:=pU.trans (bq.mono pU.size);go_wp2;go_ret;exact⟨iq,JX⟩
theorem aqg x s g w(hg:w.cell? ⟨g,0,none⟩=some (.string s)) :
 Calls prog 320 #[azv x,.pointer (some ⟨g,0,none⟩)] w λe w'=>e=.returned (.bool (mJ s x))/\Below w.heap.size w w':=by
 have:g<w.heap.size:=K0 hg
 obtain⟨a,k,n,t⟩:=x
 go_in
 go_wp2
 go_ret
 refine⟨?_,(cP _ _).alloc (aD _) _⟩
 show Ending.returned (.bool _)=Ending.returned (.bool _)
 rw[PO];rfl
theorem abz A c(l:List cM) s g w B(I:Reads w B 4 A l.length (l.flatMap kJ))(u:B<=w.heap.size)(Z:l.length<=1000000)(hg:w.cell? ⟨g,0,none⟩=some (.string s)) r
 (N:(∃k,∃hk:k<l.length,r=(k:Int)/\mJ s l[k]=true/\∀x∈l.take k,mJ s x=false)∨(r=-1/\∀x∈l,mJ s x=false)) :
 Calls prog 321 #[.slice A l.length c,.func (Fn.func 320) #[] #[.pointer (some ⟨g,0,none⟩)]] w λe w'=>e=.returned (.int .i64 r)/\Below w.heap.size w w':=by
 have U:g<w.heap.size:=K0 hg
 have E:=ae N
 have H:=ae I
 go_in
 go_wp2_with fail
 go_loopw [8] (fun i wr=>∃k:Nat,k<=l.length/\i=.int .i64 k/\Hid (∀x∈l.take k,mJ s x=false)/\Below w.heap.size w wr) (fun i _=>l.length-(intOf i).toNat)
 case atStart=>exact⟨0,af,rfl,ae aj,cP _ _⟩
 case round =>
  obtain⟨k,hk,rfl,hall,hb⟩:=hrel;by_cases hlt:k<l.length
  ·have X:(k:Int)<l.length:=af;obtain⟨b,y,rfl,t,J⟩:=H.aa.Mj af;obtain⟨T,Q,F,G⟩:=J k hlt;have d0:=(hb.cell (p:=⟨b,y+k*4,none⟩) (bw t u)).trans T;have d1:=(hb.cell (p:=⟨b,y+k*4+1,none⟩) (bw t u)).trans Q;have d2:=(hb.cell (p:=⟨b,y+k*4+2,none⟩) (bw t u)).trans F;have d3:=(hb.cell (p:=⟨b,y+k*4+3,none⟩) (bw t u)).trans G;have O:=(hb.cell (p:=⟨g,0,none⟩) U).trans hg;have hz:=hb.size;have V:=ae (λh=>aee l s k hlt h hall.aa);have S:Hid (mJ s l[k]=false->∀x∈l.take (k+1),mJ s x=false):=af4;have R:Hid (mJ s l[k]=true->(k:Int)=r):=by
    refine ae λh=>?_
    rcases E.aa with ⟨j,M,rfl,h1,L⟩|⟨_,h1⟩
    ·have:=V.aa h;have:k=j:=by
      rcases Nat.lt_trichotomy k j with C|C|C
      ·have:=L l[k] (List.mem_take_iff_getElem.2 ⟨k,af,rfl⟩);rw[h]at this;cases this
      ·exact C
      ·exact ahE
     rw[this]
    grind
   generalize l[k]=x at *;go_wp2_with fail
   apply aI (aqg x s g wr O);intro w2 W;have D:=hb.trans (W.mono hz);cases hx:mJ s x
   ·have Y:=ae (S.aa hx);go_wp2;go_roundw
    case rel=>exact⟨k+1,af,bD,Y,D⟩
    case measure=>simp[intOf];omega
   ·have HE:=ae (R.aa hx);go_wp2;go_ret;exact⟨by rw[<- HE.aa];rfl,D⟩
  ·have X:¬(k:Int)<l.length:=af;have HE:Hid (r=-1):=by
    refine ae ?_;rcases E.aa with ⟨j,M,_,h1,_⟩|⟨h,_⟩
    ·exact ahE
    ·exact h
   go_wp2;exact PT
theorem arQ A c l s w B(T:Reads w B 4 A l.length (l.flatMap kJ))(C:B<=w.heap.size)(V:l.length<=1000000) :
 Calls prog 301 #[.slice A l.length c,.string s] w λe w'=>e=.returned (Cm l s)/\Below w.heap.size w w':=by
 have GF:Below w.heap.size w (w.alloc (.cells #[.string s] 9)):=(cP _ _).alloc (aD _) _
 have u:Below w.heap.size w ((w.alloc (.cells #[.string s] 9)).alloc (.cells #[.int .i64 0,.int .i64 0,.string { data:=#[] }] 71)):=GF.alloc aj _
 have hx:=(ah.new w 9 #[.string s]).alloc (.cells #[.int .i64 0,.int .i64 0,.string { data:=#[] }] 71)
 have X:=ah.new (w.alloc (.cells #[.string s] 9)) 71 #[.int .i64 0,.int .i64 0,.string { data:=#[] }]
 have Q:((w.alloc (.cells #[.string s] 9)).alloc (.cells #[.int .i64 0,.int .i64 0,.string { data:=#[] }] 71)).cell? ⟨w.heap.size,0,none⟩=some (.string s):=hx.cell 0
 have U:=T.below u C
 rcases aef s l with ⟨k,hk,t,W⟩|t
 ·have E:=aee l s k hk t W;have HE:Hid (Cm l s=.tuple #[vv l[k].2.1 l[k].2.2.1 l[k].2.2.2,.bool true]):=ae (by simp[Cm,E]);have F:=ae (abz A c l s w.heap.size _ B U aY V Q (k:Int) (.inl ⟨k,hk,rfl,t,W⟩));obtain⟨b,M,rfl,I,hcell⟩:=T.Mj af;obtain⟨e0,Y,R,S⟩:=hcell k hk;have:(k:Int)<l.length:=af;generalize l[k]=x at *;obtain⟨xs,O,Z,xt⟩:=x;simp only at e0 Y R S HE;go_in;go_wp2_with fail
  apply aI F.aa;intro w3 y;have dP:=u.trans (y.mono u.size);have d1:=(dP.cell (p:=⟨b,M+k*4+1,none⟩) (bw I C)).trans Y;have d2:=(dP.cell (p:=⟨b,M+k*4+2,none⟩) (bw I C)).trans R;have d3:=(dP.cell (p:=⟨b,M+k*4+3,none⟩) (bw I C)).trans S;have j:=X.below y aj;have H:=j.frozen 0;have J:=j.frozen 1;have L:=j.frozen 2;have N:=j.cell 0;have D:=j.cell 1;have G:=j.cell 2;simp at H J L N D G;go_wp2;have hz:=((j.aP 0 (.int .i64 O)).aP 1 (.int .i64 Z)).aP 2 (.string xt);have g0:=hz.cell 0;have g1:=hz.cell 1;have g2:=hz.cell 2;simp at g0 g1 g2;refine bodyPost_ret (v:=.tuple #[vv O Z xt,.bool true]) ahF rfl ⟨Lm,?_⟩;exact ahG
 ·have E:=asB l s t;have HE:Hid (Cm l s=.tuple #[vv 0 0 { data:=#[] },.bool false]):=ae (by simp[Cm,E]);have F:=ae (abz A c l s w.heap.size _ B U aY V Q (-1) (.inr ⟨rfl,t⟩));go_in;go_wp2_with fail
  apply aI F.aa;intro w3 y;have dP:=u.trans (y.mono u.size);have j:=X.below y aj;have H:=j.frozen 0;have J:=j.frozen 1;have L:=j.frozen 2;have N:=j.cell 0;have D:=j.cell 1;have G:=j.cell 2;simp at H J L N D G;go_wp2;have hz:=((j.aP 0 (.int .i64 0)).aP 1 (.int .i64 0)).aP 2 (.string { data:=#[] });have g0:=hz.cell 0;have g1:=hz.cell 1;have g2:=hz.cell 2;simp at g0 g1 g2;refine bodyPost_ret (v:=.tuple #[vv 0 0 { data:=#[] },.bool false]) ahF rfl ⟨Lm,?_⟩;exact ahG
section
variable {l la lb:List cM} {b:List UInt8} {v va vb:Value} {w:World}
theorem aey s(h:iy l v w)(t:l.length<=1000000):Calls prog 301 #[v,.string s] w λe w'=>e=.returned (Cm l s)/\Below w.heap.size w w':=by obtain⟨A,c,rfl,j⟩:=h;exact arQ A c l s w _ j (aD _) t
end
