/-
  The walks of broker's State and Waiting (layer 20). Conditions: none.
-/
import Derived.Test.YtfndfpdhlbmboaaGreatMd15
import Derived.Test.YtfndfpdhlbmboaaGreatMdz
set_option maxRecDepth 100000
set_option linter.constructorNameAsVariable false
set_option maxHeartbeats 16000000
set_option linter.unusedVariables false
set_option linter.unusedSimpArgs false
namespace Go.Proofs.YtfndfpdhlbmboaaGreat
open Go Go.RowKit _root_.Go.Proofs.Tryz
theorem apT l v w(h:aq cd l v w)(hn:l.length<=1000000000) :
 Calls prog 116 #[v] w λe w'=>∃v',e=.returned v'/\aB (λk=>k<w.heap.size) w.heap.size 26 cd l v' w'/\K w w':=by
 obtain⟨A,c,rfl,j,-⟩:=h
 apply bS (ab4 A l.length c _ w (adH j) (Qe l) hn)
 rintro v' w'⟨t,k⟩
 exact⟨v',rfl,⟨l.map fw,fP,aj,λW _=>PA l W⟩,k⟩
theorem bE.Eb{B}(t:bE B):(∀x∈B.st.list,eJ x)/\(∀x∈B.st.prom,eJ x)/\(∀x∈B.waits,eJ x) :=
 ⟨λx j=>vO (t.dk.inv.zw x j).1,λx j=>vO (t.dk.inv.zx x j).1,λx j=>vO (t.waits x j).1⟩
theorem apU{M p B w}(h:bB M p B w)(U:bE B) :
 Calls prog 58 #[.pointer (some ⟨p.g,0,none⟩)] w λe w'=>∃vl vp va,e=.returned (.agg (cP B.st vl vp va))/\mh (λk=>k<w.heap.size) B.st vl vp va w'/\K w w':=by
 have S:=U.Eb
 have gU:=U.dk.len
 have C1:=ae λW (k:K w W)=>Uj B.st.list p.vl W (h.bK.at k).list S.1 af
 have C2:=ae λW (k:K w W)=>Uj B.st.prom p.vq W (h.bK.at k).prom S.2.1 af
 have C3:=ae λW (k:K w W)=>apT B.st.ab p.va W (h.bK.at k).ab af
 have q:=h.q
 have hs1:=av h.bK.now.list
 have fG:=av h.bK.now.prom
 have fc:=av h.bK.now.ab
 have J:=ai.new w 46 mi
 have I:=J.aU
 obtain⟨g,gl,gd,gr,gt,vd,vr,vp,vh,vl,vq,va,vt,vf,vw,kr⟩:=p
 simp only at q C1 C2 C3 hs1 fG fc
 obtain⟨Al,cl,rfl⟩:=hs1
 obtain⟨Aq,cq,rfl⟩:=fG
 obtain⟨Aa,ca,rfl⟩:=fc
 generalize hS:B.st=s at *
 have HS:=ae hS
 clear h U S gU hS
 go_enter func58,ntmps58
 go_upto_region 1 with (fail)
 generalize w.alloc _=t at *
 generalize dM:w.heap.size=j at J⊢
 have HG2:=ae dM
 clear dM
 have q1:=λW (k:K t W)=>q W (I.tr k)
 simp only[G4,HS.aa]at q1
 clear q
 go_upto_region 3 with (fail)
 have qs:=q1
 refine dV 23 ?_
 iterate 10 refine au.i ?_
 refine au.c (λv W=>aB (λk=>k<t.heap.size) t.heap.size 126 aV s.list v W) (λ_ _ _ h k=>h.st k) (λW kW=>(C1.aa W (I.tr kW)).mono λe w4 ⟨H,y,F,G⟩=>⟨H,y,(F.less λk hk=>bz hk kW.size).low kW.size,G⟩) ?_
 iterate 5 refine au.i ?_
 refine au.c (λv W=>aB (λk=>k<t.heap.size) t.heap.size 126 aV s.prom v W) (λ_ _ _ h k=>h.st k) (λW kW=>(C2.aa W (I.tr kW)).mono λe w4 ⟨H,y,F,G⟩=>⟨H,y,(F.less λk hk=>bz hk kW.size).low kW.size,G⟩) ?_
 iterate 5 refine au.i ?_
 refine au.c (λv W=>aB (λk=>k<t.heap.size) t.heap.size 26 cd s.ab v W) (λ_ _ _ h k=>h.st k) (λW kW=>(C3.aa W (I.tr kW)).mono λe w4 ⟨H,y,F,G⟩=>⟨H,y,(F.less λk hk=>bz hk kW.size).low kW.size,G⟩) ?_
 clear qs
 intro V W kW
 conv=>lhs;simp only[aO,aR,cC,aJ,Nat.reduceAdd]
 intro hA
 obtain⟨e0,y,e2,e3,e4,e5,e6,e7,e8,T,O,p9,Dj,zH,E3,ru,N,e17,e18,e19,e20,e21,Q,-⟩:=hA
 obtain⟨A,c1,fO⟩:=O.slice
 obtain⟨D,c2,Z⟩:=N.slice
 obtain⟨E,c3,ZX⟩:=Q.slice
 rw[fO]at O
 rw[Z]at N
 rw[ZX]at Q
 apply aH.pure
 rfl
 simp[aF,List.lookup,bj,e4,fO,Z,ZX,execOp,aG,go_sem]
 try rfl
 have R:=J.ay kW
 have q9:=R.cell
 have z9:=R.frozen
 obtain⟨C,L⟩:∃C,C=World.setCell (World.setCell (World.setCell (World.setCell W ⟨j,0,none⟩ (.int .u64 s.life)) ⟨j,1,none⟩ (.slice A s.list.length c1)) ⟨j,2,none⟩ (.slice D s.prom.length c2)) ⟨j,3,none⟩ (.slice E s.ab.length c3):=⟨_,rfl⟩
 refine aH.skip C rfl (by rw[L];simp[aF,List.lookup,bj,execOp,aG,q9,z9,go_sem]) ?_
 refine aH.nil ?_
 simp only[fZ,Act.put,sC,rI,rH,Nat.reduceAdd,bj]
 have tK:ai C j 46 (cP s (.slice A s.list.length c1) (.slice D s.prom.length c2) (.slice E s.ab.length c3)):=by rw[L];exact (((R.aQ 0 (.int .u64 s.life)).aQ 1 (.slice A s.list.length c1)).aQ 2 (.slice D s.prom.length c2)).aQ 3 (.slice E s.ab.length c3)
 have u9:ag (λk=>k=j) W C:=by rw[L];exact (((ag.bM (X:=λk=>k=j) rfl 0 (.int .u64 s.life)).tr (ag.bM (X:=λk=>k=j) rfl 1 (.slice A s.list.length c1))).tr (ag.bM (X:=λk=>k=j) rfl 2 (.slice D s.prom.length c2))).tr (ag.bM (X:=λk=>k=j) rfl 3 (.slice E s.ab.length c3))
 have hg1:=J.lt
 have ez:=HG2.aa
 have hlt:∀k,k<w.heap.size->k<t.heap.size:=λk hk=>af
 have HF:Hid (mh (λk=>k<w.heap.size) s (.slice A s.list.length c1) (.slice D s.prom.length c2) (.slice E s.ab.length c3) C):=ae λW' u =>
  have Y:ag (λk=>k<t.heap.size) W W':=(u9.more λk hk=>af).tr (u.more hlt)
  ⟨O.fx (λ_ h=>h) W' Y,N.fx (λ_ h=>h) W' Y,Q.fx (λ_ h=>h) W' Y⟩
 have hK:=u9.k (I.tr kW) λk hk=>af
 clear O N Q R J q1 q9 z9 L u9 e0 y e2 e3 e4 e5 e6 e7 e8 T fO p9 Dj zH E3 ru Z e17 e18 e19 e20 e21 ZX C1 C2 C3
 have T:=tK.cell
 go_wp2
 try rw[iq]
 refine bodyPost_ret (v:=.agg (cP s (.slice A s.list.length c1) (.slice D s.prom.length c2) (.slice E s.ab.length c3))) (by simp[results,results58,go_sem,T]) rfl ?_
 exact⟨_,_,_,rfl,HF.aa,hK⟩
theorem aoV{M p B w}(h:bB M p B w)(u:bE B) :
 Calls prog 67 #[.pointer (some ⟨p.g,0,none⟩)] w λe w'=>∃v',e=.returned v'/\aB (λk=>k<w.heap.size) w.heap.size 126 aV B.waits v' w'/\K w w':=by
 have A:=u.Eb
 have y:=u.y6
 have t:=ae (Uj B.waits p.vw w h.bK.now.waits A.2.2 y)
 have q:=h.blk.cell
 have C:=av h.bK.now.waits
 obtain⟨g,gl,gd,gr,gt,vd,vr,vp,vh,vl,vq,va,vt,vf,vw,kr⟩:=p
 simp only at q t C
 obtain⟨I,cl,rfl⟩:=C
 clear h u A y
 go_enter func67,ntmps67
 go_wp2_with fail
 apply bS t.aa
 rintro H F⟨j,E⟩
 have D:=ae j
 obtain⟨G,c2,rfl⟩:=j.slice
 clear j q t
 go_wp2
 go_ret
 exact⟨_,rfl,D.aa,E⟩
def Mo(lo:Nat)(x:aK)(v:Value)(W:World):Prop:=∃vf j,v=.agg (aE x vf j)/\Fx (λk=>k<lo) (λW=>aV.rel x (aE x vf j).toList W) W
theorem WJ lo x:∀v w w',Mo lo x v w->Below w.heap.size w w'->Mo lo x v w':=by rintro v w w'⟨vf,j,e,h⟩ k;exact⟨vf,j,e,h.k k⟩
def ZY(lo:Nat)(t:eI)(v:Value)(W:World):Prop:=∃vf j,v=.agg (gW t vf j)/\Fx (λk=>k<lo) (λW=>df.rel t (gW t vf j).toList W) W
theorem ayA lo x:∀v w w',ZY lo x v w->Below w.heap.size w w'->ZY lo x v w':=by rintro v w w'⟨vf,j,e,h⟩ k;exact⟨vf,j,e,h.k k⟩
theorem apV{M p B w}(h:bB M p B w)(C:bE B) :
 Calls prog 66 #[.pointer (some ⟨p.g,0,none⟩)] w λe w'=>∃v',e=.returned v'/\aB (λk=>k<w.heap.size) w.heap.size 128 df B.aC v' w'/\K w w':=by
 have HS:=ae C.tx.small
 have hn:=C.tx.AU
 have q:=h.blk.cell
 have t:=h.bK.now.aC
 obtain⟨g,gl,gd,gr,gt,vd,vr,vp,vh,vl,vq,va,vt,vf,vw,kr⟩:=p
 simp only at q t
 clear h C
 obtain⟨A,c,rfl,t,hc⟩:=t
 generalize B.aC=l at *
 have O:=K.rf w
 have hO:=aB.nil (λk=>k<w.heap.size) w.heap.size 128 df w
 go_enter func66,ntmps66
 go_upto_block 0 with (fail)
 clear q
 go_wp2_with fail
 go_loopw [3,5,13] (fun o _ i W=>∃j:Nat,j<=l.length/\i=.int .i64 j/\aB (fun k=>k<w.heap.size) w.heap.size 128 df (l.take j) o W/\K w W) (fun _ _ i _=>l.length-(intOf i).toNat)
 case atStart=>exact⟨0,af,rfl,fP,O⟩
 case round =>
  clear hO O;obtain⟨j,hj,rfl,hO,kr⟩:=hrel;by_cases hlt:j<l.length
  ·have aP:(j:Int)<l.length:=af;obtain⟨Y,T,cs,rfl,hcl,L,X,d⟩:=eB t j hlt ax;have HT:Hid (l.take (j+1)=l.take j++[l[j]]):=ae I0;have qi:=HS.aa _ (bZ hlt);generalize l[j]=x at *;obtain⟨vf,F,rfl,I,E⟩:=L w (K.rf w);have HE:Hid (∀W,K w W->dm x.e (.agg (aE x.e vf F)) W):=ae λW k=>⟨_,_,rfl,eO _ _ _ _ I k,bo E k⟩
   have q:∀i,i<9->wr.cell? ⟨Y,T+j*9+i,none⟩=(gW x vf F)[i]?:=λi hi=>(d wr kr i hi).trans Array.getElem?_toList
   have Z:wr.cell? ⟨Y,T+j*9,none⟩=some (.int .i64 x.e.kind):=X wr kr;have G:=ai.new wr 128 (gW x vf F);have U:=G.aU;obtain⟨Af,cf,rfl⟩:=cA I;obtain⟨Ae,ce,rfl⟩:=av E;clear d X I E L hcl;go_upto_region 7 with (fail);generalize wr.alloc _=H at *;generalize wr.heap.size=g5 at G⊢;replace hO:=hO.st U;have u:=kr.tr U;clear q Z;have q:=G.cells;have J:=hO.blk;obtain⟨Ao,co,rfl⟩:=hO.slice;have hlen:(l.take j).length<=1000000:=ba;generalize l.take j=lj at *;have qs:=q;refine dV 8 ?_;iterate 3 refine au.i ?_
   refine au.op (Mo H.heap.size x.e) (WJ _ _) (λV W kW hp=>?_) ?_
   ·(try simp only[cF,aO,aR,bW,bY,aJ]at hp)
    simp[bR,aF,List.lookup,hp,cW,execOp,aG,q,go_sem];apply bS (ab7 x.e _ W (HE.aa _ (u.tr kW)) qi);exact ahi
   iterate 2 refine au.i ?_
   refine au.op (ZY H.heap.size x) (ayA _ _) (λV W kW hp=>?_) ?_
   ·simp only[cF,aO,aR,bW,bY,aJ]at hp;obtain⟨⟨oK,oL,e3,hF⟩,D,-⟩:=hp;simp[bR,aF,List.lookup,e3,D,cW,execOp,aG,cT,go_sem];exact⟨oK,oL,rfl,hF.mono λW h=>by
     obtain⟨kM,ES,e,h1,h2⟩:=h;simp at e;obtain⟨rfl,rfl⟩:=e;exact⟨_,_,rfl,h1,h2⟩⟩
   refine au.row (N:=λk=>k<H.heap.size) (S:=df) 123 _ 9 104 JV rfl ax _ x rfl rfl (λV W kW hp=>?_) ?_
   ·exact WK
   clear qs;intro V W kW hA;simp only[aO,aR,cC,aJ,Nat.reduceAdd]at hA;obtain⟨R,e1,e2,h3,e4,D,h6,h7,-⟩:=hA;have Q:=hO.st kW;refine aH.push _ _ 123 _ 9 104 JV rfl rfl rfl _ lj x (by simp[aF,List.lookup,R]) Q ?_ af (bn u.size kW.size) ?_
   ·simp only[aF,List.lookup];exact h7.less λk hk=>by
     rcases hk with hk|hk
     ·have:=u.size;omega
     ·have:=J k hk;omega
   intro v9 w9 y bC _ aY;rw[<- HT.aa]at y;have iz:=(u.tr kW).trans aY;obtain⟨A9,c9,rfl⟩:=y.slice;apply aH.pure;rfl;simp[aF,List.lookup,bj,execOp,aG,go_sem];rfl;refine aH.e ?_;clear Q hO h3 h6 h7 R e1 e2 e4 D q J;go_wp2;go_roundw
   case rel=>exact⟨j+1,af,bI,by simpa only[qI]using y,iz⟩
   case measure=>simp[intOf];omega
  ·exact Lw
structure sK(w:World)(T:TypeId)(z:Array Value)(cs:Nat->Value)(Φ:Nat->Array Value->Value->World->Prop)(L:Nat->Bool)(V:Nat->Value)(W:World):Prop where
 k:K w W
 pre:∀j,j<5->L j=true->V j=cs j
 al:L 9=true->∃b,V 9=.pointer (some ⟨b,0,none⟩)/\w.heap.size<=b/\(L 5=false->ai W b T z)
 got:L 5=true->∃xs c lo W1,V 5=.tuple #[.agg xs,c]/\w.heap.size<=lo/\W1.heap.size<=W.heap.size/\Φ lo xs c W/\(L 10=false->K W1 W/\Φ lo xs c W1) /\
  (L 6=true->V 6=.tuple #[.agg xs,c])/\(L 7=true->V 7=.agg xs)/\(L 8=true->V 8=c)/\(L 11=true->V 11=c) /\
  (L 9=true->∃b,V 9=.pointer (some ⟨b,0,none⟩)/\w.heap.size<=b/\(b<lo∨W1.heap.size<=b)/\ai W b T (cond (L 10) xs z))
section
variable {P:Program} {Q:Exit->Act->World->Prop}
theorem ux{L i j}(h:j≠i):upd L i j=L j:=by grind [upd]
theorem yF{V i j v}(h:j≠i):bj V i v j=V j:=by grind [bj]
theorem WL{V i v}:bj V i v i=v:=by grind [bj]
variable {w:World} {T:TypeId} {z:Array Value} {cs:Nat->Value} {Φ:Nat->Array Value->Value->World->Prop} {L:Nat->Bool} {V:Nat->Value} {W:World}
theorem sK.early(h:sK w T z cs Φ L V W) i(u:i<5):sK w T z cs Φ (upd L i) (bj V i (cs i)) W:=by
 refine⟨h.k,λj t hL=>?_,λhL=>?_,λhL=>?_⟩
 ·by_cases e:j=i
  ·grind [upd,bj]
  ·rw[yF e];exact h.pre j t WM
 ·exact ahj
 ·rw[ux af]at hL;obtain⟨xs,c,lo,W1,a⟩:=h.got hL;refine⟨xs,c,lo,W1,?_⟩;simp only[ux (show 10≠i by omega),ux (show 6≠i by omega),ux (show 7≠i by omega),ux (show 8≠i by omega),ux (show 11≠i by omega),ux (show 9≠i by omega),yF (show 5≠i by omega),yF (show 6≠i by omega),yF (show 7≠i by omega),yF (show 8≠i by omega),yF (show 11≠i by omega),yF (show 9≠i by omega)];exact a
theorem sK.call(h:sK w T z cs Φ L V W){W' xs c}(k:K W W')(u:Φ W.heap.size xs c W')(B:L 5=false)(h6:L 6=false)(h7:L 7=false)(h8:L 8=false)(pZ:L 10=false)(wL:L 11=false):sK w T z cs Φ (upd L 5) (bj V 5 (.tuple #[.agg xs,c])) W':=by
 refine⟨h.k.tr k,λj hj t=>?_,λt=>?_,λ_=>⟨xs,c,W.heap.size,W',WL,h.k.size,aD _,u,λ_=>⟨K.rf _,u⟩,λt=>?_,λt=>?_,λt=>?_,λt=>?_,λt=>?_⟩⟩
 ·exact Qs
 ·rw[ux af]at t;obtain⟨b,e,A,y⟩:=h.al t;grind [upd,bj]
 ·grind [upd,bj]
 ·grind [upd,bj]
 ·grind [upd,bj]
 ·grind [upd,bj]
 ·rw[ux af]at t;obtain⟨b,e,A,y⟩:=h.al t;rw[yF af];have hb:=y B;refine⟨b,e,A,.inl hb.lt,?_⟩;rw[ux af,pZ];exact hb.ay k
theorem sK.late(h:sK w T z cs Φ L V W) i v(J:i=6∨i=7∨i=8∨i=11)(E:L 5=true)(B:∀xs c,V 5=.tuple #[.agg xs,c]->v=if i=6 then .tuple #[.agg xs,c]else if i=7 then .agg xs else c):sK w T z cs Φ (upd L i) (bj V i v) W:=by
 refine⟨h.k,λj hj hL=>?_,λhL=>?_,λhL=>?_⟩
 ·exact Qs
 ·exact ahj
 ·obtain⟨xs,c,lo,W1,u,C,y,A,D,N,G,I,F,M⟩:=h.got E;have H:=B xs c u;refine⟨xs,c,lo,W1,by grind [yF],C,y,A,λt=>D WM,λt=>?_,λt=>?_,λt=>?_,λt=>?_,λt=>?_⟩
  ·grind [upd,bj]
  ·grind [upd,bj]
  ·grind [upd,bj]
  ·grind [upd,bj]
  ·grind [upd,bj]
theorem sK.made(h:sK w T z cs Φ L V W)(B:∀lo xs c W W',Φ lo xs c W->K W W'->Φ lo xs c W')(pZ:L 10=false):sK w T z cs Φ (upd L 9) (bj V 9 (.pointer (some ⟨W.heap.size,0,none⟩))) (W.alloc (.cells z T)):=by
 have k:=K.new W (.cells z T);have hb:=ai.new W T z;refine⟨h.k.tr k,λj hj u=>?_,λ_=>⟨_,WL,h.k.size,λ_=>hb⟩,λu=>?_⟩
 ·exact Qs
 ·rw[ux af]at u;obtain⟨xs,c,lo,W1,G,D,y,C,A,J,F,H,E,I⟩:=h.got u;refine⟨xs,c,lo,W1,fP,D,bn y k.size,B _ _ _ _ _ C k,λt=>⟨(A pZ).1.tr k,(A pZ).2⟩,λt=>?_,λt=>?_,λt=>?_,λt=>?_,λ_=>⟨_,WL,h.k.size,.inr y,?_⟩⟩
  ·grind [upd,bj]
  ·grind [upd,bj]
  ·grind [upd,bj]
  ·grind [upd,bj]
  ·grind [upd,bj]
theorem sK.kept(h:sK w T z cs Φ L V W)(D:∀lo xs c W W',Φ lo xs c W->K W W'->Φ lo xs c W')(hlow:∀lo xs c W W' b,Φ lo xs c W->b<lo->ag (λk=>k=b) W W'->Φ lo xs c W')(E:L 5=true)(h9:L 9=true)(pZ:L 10=false){W' b xs c}(F:V 5=.tuple #[.agg xs,c])(C:V 9=.pointer (some ⟨b,0,none⟩))(hb:ai W' b T xs)(hg:W.grownBy W' (some b)):sK w T z cs Φ (upd L 10) (bj V 10 undef) W':=by
 have u:ag (λk=>k=b) W W':=ag.eU hg λk e=>aA
 obtain⟨N,O,lo,W1,y,a1,X,Y,H,S,Q,R,U,I⟩:=h.got E;rw[F]at y;injection y with y;simp at y;obtain⟨rfl,rfl⟩:=y;obtain⟨Z,t,M,A,-⟩:=I h9;rw[C]at t;injection t with t;injection t with t;injection t with t _;subst t;obtain⟨G,p1⟩:=H pZ;have J:Φ lo xs c W':=by
  rcases A with A|A
  ·grind
  ·exact D _ _ _ _ _ p1 (u.k G λk e=>af)
 refine⟨u.k h.k λk e=>af,λj hj B=>?_,λB=>?_,λB=>?_⟩
 ·exact Qs
 ·grind [upd,bj]
 ·grind [upd,bj]
def Cl:List (List Nat):=[[],[0],[1],[2],[],[3,4],[5],[6],[6],[],[7,9],[8]]
def mf(P:Program)(j:Act)(ops:Array Oper)(t:List (List Nat×List (Nat×Nat)))(i:Nat)(V:Nat->Value)(W:World):Result Next :=
 match ops[i]?,t[i]? with
 | some o,some x=>(execOp (aF x.2 j V) (aG o.op o.type)).run P W
 | _,_=>.halt (.stuck "") W
theorem abQ{id ops B w} T z(cs:Nat->Value)(Φ:Nat->Array Value->Value->World->Prop) A f args
 n (hn:B.tmps.size=n) (hm:P.follows .mixedOrders=true) (hok:sy ops n=true) (hpl:uq ops A=true) (hsz:ops.size=12) (jK:A.map (·.1)=Cl) (hgd:∀o∈ops.toList,o.guard=none)
 (xK:∀i,i<5->∀V W,K w W->(∀j∈(A.getD i ([],[])).1,V j=cs j)->mf P B ops A i V W=.ok (.value (cs i)) W)
 (hcall:∀V W,K w W->V 3=cs 3->V 4=cs 4->mf P B ops A 5 V W=.ok (.enter f args) W)
 (hC:∀W,K w W->Calls P f args W λe W'=>∃xs c,e=.returned (.tuple #[.agg xs,c])/\Φ W.heap.size xs c W'/\K W W')
 (h6:∀V W v,V 5=v->mf P B ops A 6 V W=.ok (.value v) W)
 (h7:∀V W xs c,V 6=.tuple #[.agg xs,c]->mf P B ops A 7 V W=.ok (.value (.agg xs)) W)
 (h8:∀V W xs c,V 6=.tuple #[.agg xs,c]->mf P B ops A 8 V W=.ok (.value c) W)
 (h9:∀V W,mf P B ops A 9 V W=.ok (.value (.pointer (some ⟨W.heap.size,0,none⟩))) (W.alloc (.cells z T)))
 (pZ:∀V W b lo xs c W0,V 9=.pointer (some ⟨b,0,none⟩)->V 7=.agg xs->ai W b T z->Φ lo xs c W0->∃W',mf P B ops A 10 V W=.ok .skip W'/\ai W' b T xs/\W.grownBy W' (some b))
 (wL:∀V W c,V 8=c->mf P B ops A 11 V W=.ok (.value c) W)
 (hK:∀lo xs c W W',Φ lo xs c W->K W W'->Φ lo xs c W') (hlow:∀lo xs c W W' b,Φ lo xs c W->b<lo->ag (λk=>k=b) W W'->Φ lo xs c W')
 (fin:∀V W b xs c lo,K w W->(∀j,j<5->V j=cs j)->V 5=.tuple #[.agg xs,c]->V 6=.tuple #[.agg xs,c]->V 7=.agg xs->V 8=c->V 9=.pointer (some ⟨b,0,none⟩)->V 11=c->w.heap.size<=b->ai W b T xs->w.heap.size<=lo->Φ lo xs c W->Q .normal (fZ V ops.toList 0 B) W) :
 (Code.region id ops true).wp P Q B w:=by
 have Mf:∀(i:Nat) (o:Oper),ops[i]?=some o->∃x:List Nat×List (Nat×Nat),A[i]?=some x/\∀j∈x.1,j∈ahead o:=by
  intro i o ho
  have h3:=List.all_eq_true.1 hpl (o,i) (List.mem_zipIdx_iff_getElem?.2 aA)
  cases R:A[i]? with
  | none=>simp only[R]at h3;cases h3
  | some x =>
   grind
 refine Ue (sK w T z cs Φ) n hn hm hok ⟨(K.rf w).drew,λ_ _ hj=>P5,λhj=>P5,λhj=>P5⟩ ?_ ?_
 ·intro i o ho L V W M hcl hal u;have hlt:i<12:=aA;obtain⟨x,R,GN⟩:=Mf i o ho;have hgo:=hgd o aA;have hex:execOp (za ops B V o) o=execOp (aF x.2 B V) (aG o.op o.type):=by
   have h1:=List.all_eq_true.1 hpl (o,i) (List.mem_zipIdx_iff_getElem?.2 aA);simp only[R,dC]at h1;rw[<- Us];refine execOp_congr o (λcs b e=>aA) λy hy=>?_
   exact afW
  have SP:(execOp (za ops B V o) o).run P W=mf P B ops A i V W:=by rw[hex];unfold mf;rw[ho,R]
  have hw:wants V o=true:=by unfold wants;rw[hgo]
  rw[if_pos hw,SP];have hx1:x.1=Cl.getD i []:=by
   grind
  have C:=λj hj=>hal j (GN j (by rw[hx1];exact hj))
  have hall:∀k o',ops[k]?=some o'->L k=true->∀j∈Cl.getD k [],L j=true:=λk o' oD hk j hj=>by
   obtain⟨y,hy,hya⟩:=Mf k o' oD;have AZ:y.1=Cl.getD k []:=by
    grind
   exact hcl.1 k o' oD hk j (hya j (by rw[AZ];exact hj))
  have hb:∀k,k<12->∀j∈Cl.getD k [],L j=false->L k=false:=λk hk j hj hjL=>by
   cases qY:L k with
   | false=>rfl
   | true =>
    grind
  have J:∀k,k=6∨k=7∨k=8∨k=11∨k=10->(∀j∈Cl.getD k [],L j=true)->L 5=true:=λk hk hj=>by
   have E:=λh=>hall 6 _ (show ops[6]?=some ops[6] by simp) h 5 nA
   have H:=λh=>hall 7 _ (show ops[7]?=some ops[7] by simp) h 6 nA
   have I:=λh=>hall 8 _ (show ops[8]?=some ops[8] by simp) h 6 nA
   rcases hk with rfl|rfl|rfl|rfl|rfl
   ·exact hj 5 nA
   ·exact E (hj 6 nA)
   ·exact E (hj 6 nA)
   ·exact E (I (hj 8 nA))
   ·exact E (H (hj 7 nA))
  have X:∀ {xs N:Array Value} {c O:Value},V 5=.tuple #[.agg xs,c]->V 5=.tuple #[.agg N,O]->xs=N/\c=O:=λe e'=>by
   grind
  by_cases hi5:i<5
  ·have hpx:(A.getD i ([],[])).1=Cl.getD i []:=by rw[List.getD_eq_getElem?_getD,R];exact hx1
   rw[xK i hi5 V W u.k λj hj=>by
    rw[hpx]at hj;refine u.pre j ?_ (C j hj);have:i=0∨i=1∨i=2∨i=3∨i=4:=af;rcases this with rfl|rfl|rfl|rfl|rfl <;> simp[Cl]at hj <;> omega]
   exact u.early i hi5
  have hi:i=5∨i=6∨i=7∨i=8∨i=9∨i=10∨i=11:=af;rcases hi with rfl|rfl|rfl|rfl|rfl|rfl|rfl
  ·have Z:=hb 6 af 5 nA M;have l7:=hb 7 af 6 nA Z;have l8:=hb 8 af 6 nA Z;have Y:=hb 10 af 7 nA l7;have l11:=hb 11 af 8 nA l8;rw[hcall V W u.k (u.pre 3 af (C 3 nA)) (u.pre 4 af (C 4 nA))];refine (hC W u.k).mono ?_;rintro e W'⟨xs,c,rfl,Dk,k⟩;exact⟨_,rfl,u.call k Dk M Z l7 l8 Y l11⟩
  ·have D:=J 6 aj C;rw[h6 V W _ rfl];exact u.late 6 _ aj D λxs c e=>Cb
  ·have D:=J 7 aj C;obtain⟨xs,c,lo,W1,F,-,-,-,-,E,-⟩:=u.got D;rw[h7 V W xs c (E (C 6 nA))];exact u.late 7 _ aj D λN O e=>by rw[(X F e).1];rfl
  ·have D:=J 8 aj C;obtain⟨xs,c,lo,W1,F,-,-,-,-,E,-⟩:=u.got D;rw[h8 V W xs c (E (C 6 nA))];exact u.late 8 _ aj D λN O e=>by rw[(X F e).2];rfl
  ·have Y:=hb 10 af 9 nA M;rw[h9 V W];exact u.made hK Y
  ·have D:=J 10 aj C;obtain⟨xs,c,lo,W1,F,a1,a2,a3,a4,E,H,I,Nw,a9⟩:=u.got D;obtain⟨b,U,aN,hb2,S⟩:=a9 (C 9 nA);rw[M]at S;obtain⟨W',hrun,hb',hg'⟩:=pZ V W b lo xs c W U (H (C 7 nA)) S a3;rw[hrun];exact u.kept hK hlow D (C 9 nA) M F U hb' hg'
  ·have D:=J 11 aj C;obtain⟨xs,c,lo,W1,F,-,-,-,-,E,H,I,-⟩:=u.got D;rw[wL V W c (I (C 8 nA))];exact u.late 11 _ aj D λN O e=>by rw[(X F e).2];rfl
 ·intro V W u;have G:∀j,j<12->decide (j<ops.size)=true:=λj hj=>by rw[hsz];simpa using hj
  obtain⟨xs,c,lo,W1,F,a1,a2,a3,a4,E,H,I,Nw,a9⟩:=u.got (G 5 af);obtain⟨b,U,aN,hb2,S⟩:=a9 (G 9 af);rw[G 10 af]at S;exact fin V W b xs c lo u.k (λj hj=>u.pre j hj (G j af)) F (E (G 6 af)) (H (G 7 af)) (I (G 8 af)) U (Nw (G 11 af)) aN S a1 a3
end
section
variable {M:Nat->Prop} {p:nU} {B:aZ} {w w':World}
theorem bB.log(h:bB M p B w){vd vr d}(t:Sw p.gl p.gd vd vr d w')(u:oH p.gl p.gd p.vd p.vr vd vr w w') :
 bB (λk=>M k∨bw { p with vd:=vd,vr:=vr } k) { p with vd:=vd,vr:=vr } { B with dk:=d } w'/\ag (bw p) w w'/\∀k,bw { p with vd:=vd,vr:=vr } k->bw p k∨w.heap.size<=k:=by
 obtain⟨F,E,A,C,y⟩:=h.apart
 have hn:∀k,bw { p with vd:=vd,vr:=vr } k->bw p k∨w.heap.size<=k:=λk hk=>by
  rcases hk with hk|hk|hk|hk
  ·exact .inl (.inl hk)
  ·exact .inl (.inr (.inl hk))
  ·exact .inl (.inr (.inr (.inl hk)))
  ·exact (u.new k hk).imp (λh=>.inr (.inr (.inr h))) id
 have hz:=u.up.size
 refine⟨⟨h.blk.aW u.up A,t,h.rep.aW u.up C,h.xb.aW u.up y,?_,λk hk=>.inr hk,λk hk=>?_,h.ne⟩,u.up.more λk hk=>.inr (.inr (.inr hk)),hn⟩
 ·have D:=h.bK.to (N:=λk=>M k∨bw { p with vd:=vd,vr:=vr } k) u.up (λk hk=>h.sub k (.inr (.inr (.inr hk)))) λk hk j=>j.elim id λj=>h.sub k ((hn k j).resolve_right af)
  exact D.mono λW d=>⟨d.par,d.ah,d.list,d.prom,d.ab,d.aC,d.fD,d.waits,d.bO⟩
 ·rcases hk with hk|hk
  ·exact bz (h.low k hk) hz
  ·rcases hk with hk|hk|hk|hk
   ·exact bz (h.low k (h.sub k (.inl hk))) hz
   ·exact bz (h.low k (h.sub k (.inr (.inl hk)))) hz
   ·exact bz (h.low k (h.sub k (.inr (.inr (.inl hk))))) hz
   ·exact t.lt k hk
theorem bB.aAb(h:bB M p B w){s vl vq va}(E:mh M s vl vq va w) :
 bB M { p with vl:=vl,vq:=vq,va:=va } { B with st:=s } (World.setCell (World.setCell (World.setCell (World.setCell w ⟨p.g,4,none⟩ (.int .u64 s.life)) ⟨p.g,5,none⟩ vl) ⟨p.g,6,none⟩ vq) ⟨p.g,7,none⟩ va):=by
 have g:=h.sub p.g (.inl rfl)
 have C:=h.cell (p':=p) (B':={ B with st:=⟨s.life,B.st.list,B.st.prom,B.st.ab⟩ }) 4 (.int .u64 s.life) (h.blk.aQ 4 _) ⟨rfl,rfl,rfl,rfl,rfl,rfl,rfl,rfl⟩ ⟨rfl,rfl⟩ λW u d=>⟨d.par,d.ah,d.list,d.prom,d.ab,d.aC,d.fD,d.waits,d.bO⟩
 have j:mh M s vl vq va _:=E.up (ag.bM (X:=M) g 4 (.int .u64 s.life)) λ_ h=>h
 have A:=C.cell (p':={ p with vl:=vl }) (B':={ B with st:=⟨s.life,s.list,B.st.prom,B.st.ab⟩ }) 5 vl (C.blk.aQ 5 _) ⟨rfl,rfl,rfl,rfl,rfl,rfl,rfl,rfl⟩ ⟨rfl,rfl⟩ λW u d=>⟨d.par,d.ah,(j W u).1,d.prom,d.ab,d.aC,d.fD,d.waits,d.bO⟩
 have t:mh M s vl vq va _:=j.up (ag.bM (X:=M) g 5 vl) λ_ h=>h
 have y:=A.cell (p':={ p with vl:=vl,vq:=vq }) (B':={ B with st:=⟨s.life,s.list,s.prom,B.st.ab⟩ }) 6 vq (A.blk.aQ 6 _) ⟨rfl,rfl,rfl,rfl,rfl,rfl,rfl,rfl⟩ ⟨rfl,rfl⟩ λW u d=>⟨d.par,d.ah,d.list,(t W u).2.1,d.ab,d.aC,d.fD,d.waits,d.bO⟩
 have D:mh M s vl vq va _:=t.up (ag.bM (X:=M) g 6 vq) λ_ h=>h
 exact y.cell (p':={ p with vl:=vl,vq:=vq,va:=va }) (B':={ B with st:=s }) 7 va (y.blk.aQ 7 _) ⟨rfl,rfl,rfl,rfl,rfl,rfl,rfl,rfl⟩ ⟨rfl,rfl⟩ λW u d=>⟨d.par,d.ah,d.list,d.prom,(D W u).2.2,d.aC,d.fD,d.waits,d.bO⟩
end
theorem av4{d r}(j:uC d r=true):oI (jk d) [bL r] d.room=(jk ⟨d.eZ++[r],d.room⟩,0):=by
 simp only[uC,dC,decide_eq_true_eq]at j
 have u:=Vp j.1
 have t:(jk d).length+(frames [bL r]).length<=d.room:=by
  grind [jk,O6,frames,BU]
 unfold oI tR
 grind [uC,oI,jk,bL,frames]
theorem av5{d r}(j:uC d r=false):(oI (jk d) [bL r] d.room).1=jk d/\(oI (jk d) [bL r] d.room).2≠0:=by
 have t:¬((bL r).length<=4000/\ir d.eZ+xV (bL r)<=d.room):=by grind [uC]
 unfold oI
 grind [bL,ij,tR,jk,O6,frames,BU]
theorem ar7{s r}(j:dR r=true)(h:dZ s r=none):mR s r=(s,160):=by grind [mR]
theorem ac6{s t r}(j:dR r=true)(h:dZ s r=some t):mR s r=(t,0):=by grind [mR]
theorem at7{x}(h:dR x=true)(j:jQ x):(bL x).length<=30000:=by
 have C:=cS (bf x.kind) (gP _);have y:=cS x.n j.2.1;have B:=cS (bf x.br) (gP _);have u:=cS x.life j.2.2.2.2.1;have A:=cS x.b6 j.2.2.2.2.2;rcases BR h with ⟨hk,-⟩|⟨hk,t,-⟩|⟨hk,-⟩
 ·grind [dR,jQ,bL]
 ·have:=KX t j.2.2.1;have D:=cS (eP x.e).length af;rw[adG af];simp only[dx,iD];omega
 ·grind [dR,jQ,bL,fC]
def azm(s:dA)(j:Int)(lo:Nat)(xs:Array Value)(c:Value)(W:World):Prop:=∃vl vp va,xs=cP s vl vp va/\c=.int .i64 j/\mh (λk=>k<lo) s vl vp va W
theorem KH{M p B w}(h:bB M p B w)(hG:bE B) r u(hr:p6 r u w)(hfit:jQ r)(iO:eJ r.e) :
 Calls prog 200 #[.pointer (some ⟨p.g,0,none⟩),u] w λe w'=>e=.returned (.bool (dz B r).2)/\dK M p (dz B r).1 w w':=by
 have HN:Hid (dz B r=if dR r&&uC B.dk r then (match dZ B.st r with
  | none=>(B,false)
  | some t=>({ B with st:=t,dk:=⟨B.dk.eZ++[r],B.dk.room⟩,aC:=if r.kind=2 then fX B.aC (ar r.e)else B.aC },true))
  else (B,false)):=ae rfl
 have H:=ae h
 have HX:=ae λk hk=>h.low k (h.sub k hk)
 have HM:=ae h.low
 have C1:=ae λW (k:K w W)=>Vk r u W (QY hr k) hfit
 have YL:=hG.Eb
 have gU:=hG.dk.len
 have C2:=ae λW (k:K w W)=>avC B.st r (.agg (cP B.st p.vl p.vq p.va)) u W ⟨_,_,_,rfl,(h.bK.at k).list,(h.bK.at k).prom,(h.bK.at k).ab⟩ (QY hr k) hfit iO YL.1 YL.2.1 ⟨af,af,af⟩
 have q:=h.q
 have hs1:=av h.bK.now.list
 have fG:=av h.bK.now.prom
 have fc:=av h.bK.now.ab
 have hs4:=av h.bK.now.aC
 obtain⟨vf,ve,rfl,hf,he⟩:=hr
 obtain⟨Af,cf,rfl⟩:=cA hf
 obtain⟨Ae,ce,rfl⟩:=av he
 have hb:=ai.new w 197 (eY r (.slice Af r.e.f.length cf) (.slice Ae r.e.es.length ce))
 have k1:=hb.aU
 have HGO:=ae hG
 clear hf he YL gU h hG
 generalize dz B r=R at *
 go_enter func200,ntmps200
 go_upto_region 1 with (fail)
 generalize w.alloc _=w1 at *
 generalize jM:w.heap.size=ga at hb⊢
 have lQ:=ae jM
 clear jM
 have qa:=hb.cell
 go_wp2_with fail
 refine (C1.aa w1 k1).mono ?_
 rintro e w2⟨v2,rfl,dG,k2⟩
 have bD:=k1.tr k2
 have hb2:=hb.ay k2
 clear C1 qa
 have HC:Hid (ur r=if dR r then 0 else 110):=ae rfl
 have HE:Hid (zY r=if dR r then bL r else []):=ae rfl
 generalize ur r=cc at *
 generalize zY r=eb at *
 cases hok:dR r
 ·have HR:Hid (R=(B,false)):=ae (by rw[HN.aa,hok];rfl);obtain rfl:cc=110:=by rw[HC.aa,hok];rfl
  have HF:=ae (H.aa.n bD);obtain⟨A2,c2,rfl,-⟩:=dG.slice;clear q hb hb2 dG;exact Lx
 obtain rfl:cc=0:=by rw[HC.aa,hok];rfl
 obtain rfl:eb=bL r:=VV
 obtain⟨A2,c2,rfl,-⟩:=dG.slice
 have xa:=ae dG
 have j0:=ae hok
 clear dG HC HE hok
 go_upto_region 4 with (fail)
 have q2:=λW (k:K w2 W)=>q W (bD.tr k)
 have qb:=hb2.cells
 have C3:=ae λW (k:K w2 W)=>C2.aa W (bD.tr k)
 obtain⟨y,hs'⟩:∃y,y=(mR B.st r).1:=⟨_,rfl⟩
 obtain⟨code,Gf⟩:∃c,c=(mR B.st r).2:=⟨_,rfl⟩
 simp only[<- hs',<- Gf]at C3
 have HST:=ae hs'
 have HCD:=ae Gf
 obtain⟨g,gl,gd,gr,gt,vd,vr,vp,vh,vl,vq,va,vt,U,vw,kr⟩:=p
 simp only at q2 hs1 fG fc hs4 C3
 obtain⟨N,cl,rfl⟩:=hs1
 obtain⟨L,cq,rfl⟩:=fG
 obtain⟨Y,Z,rfl⟩:=fc
 obtain⟨J,S,rfl⟩:=hs4
 have wX:=ae hb2
 clear q hb hb2 C2 hs' Gf
 refine abQ 46 mi (λi=>[Value.pointer (some ⟨g,0,none⟩),.pointer (some ⟨g,0,none⟩),.pointer (some ⟨g,4,none⟩),.agg (cP B.st (.slice N B.st.list.length cl) (.slice L B.st.prom.length cq) (.slice Y B.st.ab.length Z)),.agg (eY r (.slice Af r.e.f.length cf) (.slice Ae r.e.es.length ce))].getD i undef) (azm y code)
  [([],[]),([0],[(16,0)]),([1],[(17,1)]),([2],[(18,2)]),([],[]),([3,4],[(19,3),(20,4)]),([5],[(21,5)]),([6],[(15,6)]),([6],[(15,6)]),([],[]),([7,9],[(7,9),(22,7)]),([8],[(23,8)])] 269 #[.agg (cP B.st (.slice N B.st.list.length cl) (.slice L B.st.prom.length cq) (.slice Y B.st.ab.length Z)),.agg (eY r (.slice Af r.e.f.length cf) (.slice Ae r.e.es.length ce))] 52 rfl cV cV cV rfl rfl ?gd ?pre ?call ?cc ?h6 ?h7 ?h8 ?h9 ?pZ ?wL ?hk ?hlow ?_
 case gd=>simp
 case pre => intro i hi V W kW hp;have:i=0∨i=1∨i=2∨i=3∨i=4:=af;rcases this with rfl|rfl|rfl|rfl|rfl <;> simp at hp <;> simp[mf,aF,List.lookup,hp,execOp,aG,q2,qb,kW,go_sem]
 case call=>intro V W kW h3 h4;simp at h3 h4;simp[mf,aF,List.lookup,h3,h4,execOp,aG,go_sem]
 case cc => intro W kW;refine (C3.aa W kW).mono ?_;rintro e w3⟨E,Q,T,rfl,C,k3⟩;exact⟨_,_,rfl,⟨E,Q,T,rfl,rfl,C⟩,k3⟩
 case h6=>intro V W v O;simp[mf,aF,List.lookup,O,execOp,aG,go_sem]
 case h7=>intro V W xs c O;simp[mf,aF,List.lookup,O,execOp,aG,go_sem]
 case h8=>intro V W xs c O;simp[mf,aF,List.lookup,O,execOp,aG,go_sem]
 case h9=>intro V W;simp[mf,execOp,aG,go_sem]
 case pZ => rintro V W b lo xs c W0 e9 e7 hb⟨E,Q,T,rfl,-,C⟩;obtain⟨⟨I,fl,rfl⟩,⟨F,fp,rfl⟩,G,fa,rfl⟩:=C.sl;have qz:=hb.cell;have zz:=hb.frozen;have u:=ag.sets (X:=λk=>k=b) rfl [.int .u64 y.life,.slice I y.list.length fl,.slice F y.prom.length fp,.slice G y.ab.length fa] 0 W;exact⟨_,by simp[mf,aF,List.lookup,e9,e7,execOp,aG,qz,zz,go_sem];rfl,FU (us:=[.int .u64 y.life,.slice I y.list.length fl,.slice F y.prom.length fp,.slice G y.ab.length fa]) hb rfl,⟨u.os,u.tape,u.output,u.size,λk hk hne=>u.block k hk λe=>hne K8⟩⟩
 case wL=>intro V W c O;simp[mf,aF,List.lookup,O,execOp,aG,go_sem]
 case hk=>rintro lo xs c W W'⟨E,Q,T,a2,a3,C⟩ k;exact⟨E,Q,T,a2,a3,C.k k⟩
 case hlow=>rintro lo xs c W W' b⟨E,Q,T,a2,a3,C⟩ hb u;exact⟨E,Q,T,a2,a3,C.up u λk e=>e▸hb⟩
 intro V W b xs c lo kW hcs e5 e6 e7 e8 e9 p9 bT hbk hlo Dk
 obtain⟨E,Q,T,rfl,rfl,C⟩:=Dk
 obtain⟨⟨I,fl,rfl⟩,⟨F,fp,rfl⟩,G,fa,rfl⟩:=C.sl
 simp only[fZ,Act.put,sC,rI,rH,e5,e6,e7,e8,e9,p9]
 have vD:=bD.tr kW
 cases yh:dZ B.st r with
 | none =>
  have HR:Hid (R=(B,false)):=ae (by rw[HN.aa,j0.aa,yh];split <;> rfl);obtain rfl:code=160:=by rw[HCD.aa,ar7 j0.aa yh]
  have HF:=ae (H.aa.n vD);clear hcs e5 e6 e7 e8 e9 p9 hbk C q2 qb C3 yh;exact Lx
 | some t =>
  obtain rfl:code=0:=by rw[HCD.aa,ac6 j0.aa yh]
  obtain rfl:y=t:=by rw[HST.aa,ac6 j0.aa yh]
  have HR:Hid (R=if uC B.dk r then ({ B with st:=y,dk:=⟨B.dk.eZ++[r],B.dk.room⟩,aC:=if r.kind=2 then fX B.aC (ar r.e)else B.aC },true)else (B,false)):=ae (by rw[HN.aa,j0.aa,yh];rfl);have ET:=H.aa.st vD;have D:=K.new W (.cells #[.slice A2 (bL r).length c2] 94);have aAc:∀k,kQ gl gd vd vr k->k<w.heap.size:=λk hk=>HX.aa k (.inr (.inr (.inr hk)))
  have nt:=vD.size;have hz1:=k1.size;have ke:Fx (kQ gl gd vd vr) (λW'=>aq ly [bL r] (.slice (some ⟨W.heap.size,0,none⟩) 1 1) W') (W.alloc (.cells #[.slice A2 (bL r).length c2] 94)):=λW' u=>by
   have hown:=i6 (qv xa.aa (kW.tr D)) u λk hk A=>by have:=(xa.aa.lt k hk).1;have:=aAc k A;omega
   have akt:=(ai.new W 94 #[.slice A2 (bL r).length c2]).aW u λA=>aA
   refine⟨some ⟨W.heap.size,0,none⟩,1,rfl,⟨[[.slice A2 (bL r).length c2]],Each.one ⟨_,rfl,eT hown⟩,rfl,λ_=>⟨W.heap.size,0,rfl,akt.lt,λj u hu=>?_⟩⟩,aj⟩;rw[mQ,akt.cell j];simpa using hu
  have bT:∀b∈[bL r],b.length<=1000000000:=λb hb=>by simp at hb;subst hb;exact bn (at7 j0.aa hfit) af
  have C4:=ae (apO gl gd vd vr (.slice (some ⟨W.heap.size,0,none⟩) 1 1) (jk B.dk) B.dk.room [bL r] _ (ET.lg.st D) ke aj bT);have qW:=q2 W kW;have pg:=hbk.ay D;have Sv:=ae (H.aa.st (vD.tr D));have Nz:=ae (vD.tr D);have hne:Hid (uC B.dk r=false->(oI (jk B.dk) [bL r] B.dk.room).1=jk B.dk/\(oI (jk B.dk) [bL r] B.dk.room).2≠0):=ae av5;have hye:Hid (uC B.dk r=true->oI (jk B.dk) [bL r] B.dk.room=(jk ⟨B.dk.eZ++[r],B.dk.room⟩,0)):=ae av4;generalize oI (jk B.dk) [bL r] B.dk.room=AP at *;obtain⟨al,ac⟩:=AP;have HSS:=ae C;have Bh:=ae q2;have HQB:=ae qb;have hW5:∀W',W'=W.alloc (.cells #[.slice A2 (bL r).length c2] 94)->True:=λ_ _=>trivial
  clear hW5 ET ke bT C q2 qb C3 hcs e5 e6 e7 e8 e9 p9 yh hbk;go_upto_region 7 with (fail);go_wp2_with fail
  refine C4.aa.mono ?_;rintro e w6⟨Z0,Z1,rfl,JM,Hf⟩;cases ng:uC B.dk r
  ·have fy:Hid (R=(B,false)):=ae ahk;obtain⟨e1,e2⟩:=hne.aa ng;subst e1;obtain⟨b1,b2,b3⟩:=Sv.aa.log (d:=B.dk) JM Hf;have HF:Hid (dK M ⟨g,gl,gd,gr,gt,vd,vr,vp,vh,.slice N B.st.list.length cl,.slice L B.st.prom.length cq,.slice Y B.st.ab.length Z,.slice J B.aC.length S,U,vw,kr⟩ B w w6):=ae (dK.zD ⟨_,b1,b2,rfl,b3⟩ Nz.aa HX.aa);have e3:(ac != 0)=true:=by simpa using e2
   clear b1 b2 b3 JM Hf C4 qW pg D ng e2;go_wp2;go_ret;exact⟨Lr,by rw[fy.aa];exact HF.aa⟩
  have fy:Hid (R=({ B with st:=y,dk:=⟨B.dk.eZ++[r],B.dk.room⟩,aC:=if r.kind=2 then fX B.aC (ar r.e)else B.aC },true)):=ae ahk;obtain⟨rfl,rfl⟩:=Prod.mk.inj (hye.aa ng);obtain⟨b1,b2,b3⟩:=Sv.aa.log (d:=⟨B.dk.eZ++[r],B.dk.room⟩) JM Hf;have hz2:=bD.size;have jM:=lQ.aa;have hs6:mh (λk=>M k∨bw ⟨g,gl,gd,gr,gt,Z0,Z1,vp,vh,.slice N B.st.list.length cl,.slice L B.st.prom.length cq,.slice Y B.st.ab.length Z,.slice J B.aC.length S,U,vw,kr⟩ k) y (.slice I y.list.length fl) (.slice F y.prom.length fp) (.slice G y.ab.length fa) w6:=by
   have h0:=HSS.aa.less λk (hk:k<w2.heap.size)=>bz hk hlo
   refine h0.to (X:=kQ gl gd vd vr) ((ag.aT D _).tr Hf.up) (λk hk=>aA) λk hk A=>?_
   rcases A with A|A
   ·have:=HM.aa k A;omega
   ·rcases b3 k A with A|A
    ·have:=HX.aa k A;omega
    ·have:=D.size;omega
  have aku:=pg.aW Hf.up λA=>aA
  have jH:=(wX.aa.ay (kW.tr D)).aW Hf.up λA=>aA
  have hP:=b1.aAb hs6;simp only at hP;have HU6:=ae ((ag.aT Nz.aa _).tr b2);have HN6:=ae b3;have q6:=b1.blk.cell;have z6:=b1.blk.frozen;have qs6:=aku.cell;clear b2 b3 hs6 b1 JM Hf C4 qW pg D hne hye ng Bh HQB;go_upto_region 10 with (fail);have u7:=(((ag.bM (X:=λk=>k=g) (W:=w6) rfl 4 (.int .u64 y.life)).tr (ag.bM (X:=λk=>k=g) rfl 5 (.slice I y.list.length fl))).tr (ag.bM (X:=λk=>k=g) rfl 6 (.slice F y.prom.length fp))).tr (ag.bM (X:=λk=>k=g) rfl 7 (.slice G y.ab.length fa));have ez:=HX.aa g (.inl rfl);have jg:=jH.aW u7 af;generalize World.setCell (World.setCell (World.setCell (World.setCell w6 _ _) _ _) _ _) _ _=w7 at *;have J8:=ae (HU6.aa.tr (u7.more λk hk=>.inl hk));have NA:=ae Nz.aa.size;have q7:=jg.cells;clear q6 z6 qs6 aku jH u7 jg;by_cases hk2:r.kind=2;rotate_left
  ·have Z2:Hid (R=({ B with st:=y,dk:=⟨B.dk.eZ++[r],B.dk.room⟩ },true)):=ae (by rw[fy.aa,if_neg hk2]);have jh:(r.kind==2)=false:=by simpa using hk2
   have HF:Hid (dK M ⟨g,gl,gd,gr,gt,vd,vr,vp,vh,.slice N B.st.list.length cl,.slice L B.st.prom.length cq,.slice Y B.st.ab.length Z,.slice J B.aC.length S,U,vw,kr⟩ { B with st:=y,dk:=⟨B.dk.eZ++[r],B.dk.room⟩ } w w7):=ae ⟨⟨g,gl,gd,gr,gt,Z0,Z1,vp,vh,.slice I y.list.length fl,.slice F y.prom.length fp,.slice G y.ab.length fa,.slice J B.aC.length S,U,vw,kr⟩,hP,J8.aa,rfl,λk hk=>(HN6.aa k hk).imp id λh=>by have:=NA.aa;omega⟩;have qk:=q7 w7 (K.rf _);clear hP q7 hk2;exact ahl
  have Z2:Hid (R=({ B with st:=y,dk:=⟨B.dk.eZ++[r],B.dk.room⟩,aC:=fX B.aC (ar r.e) },true)):=ae (by rw[fy.aa,if_pos hk2]);have qk:=q7 w7 (K.rf _);have C5:=ae λW' (k:K w7 W')=>UI B.aC (ar r.e) (.slice J B.aC.length S) W' (hP.bK.at k).aC HGO.aa.tx.small HGO.aa.tx.AU
  have qg:=hP.blk.cells;simp only at qg;have HP:=ae hP;clear hP;go_upto_region 11 with (fail);clear qk;have qs:=And.intro q7 qg;refine dV 9 ?_;iterate 8 refine au.i ?_
  refine au.op (λv W'=>aX w7.heap.size w7.heap.size 128 df (fX B.aC (ar r.e)) v W') (λ_ _ _ h k=>h.st k) (λV W kW hp=>?_) ?_
  ·(try simp only[cF,aO,aR,bW,bY,aJ]at hp)
   simp[bR,aF,List.lookup,hp,cW,execOp,aG,q7,qg,go_sem];exact ahm
  clear qs;intro V W kW hA;simp only[aO,aR,cC,aJ,Nat.reduceAdd]at hA;obtain⟨d0,d1,d2,d3,d4,d5,d6,d7,iA,-⟩:=hA;generalize Dl:V 8=v8 at *;have sf:=HP.aa.st kW;have iR:=iA.JY HP.aa.low;obtain⟨A8,c8,rfl⟩:=av iA.aq;have q8:=sf.blk.cell;have z8:=sf.blk.frozen;simp only at q8 z8;iterate 2 (apply aH.pure;rfl;(simp[aF,List.lookup,bj,d0,Dl,execOp,aG,go_sem];rfl))
  refine aH.skip (W.setCell ⟨g,8,none⟩ (.slice A8 (fX B.aC (ar r.e)).length c8)) rfl WN ?_;refine aH.e ?_;have Bz:=sf.Mm iR;have NC:=J8.aa.tr (((ag.aT kW _).tr (ag.bM (X:=bw ⟨g,gl,gd,gr,gt,vd,vr,vp,vh,.slice N B.st.list.length cl,.slice L B.st.prom.length cq,.slice Y B.st.ab.length Z,.slice J B.aC.length S,U,vw,kr⟩) (.inl rfl) 8 (.slice A8 (fX B.aC (ar r.e)).length c8))));have HF:Hid (dK M ⟨g,gl,gd,gr,gt,vd,vr,vp,vh,.slice N B.st.list.length cl,.slice L B.st.prom.length cq,.slice Y B.st.ab.length Z,.slice J B.aC.length S,U,vw,kr⟩ { B with st:=y,dk:=⟨B.dk.eZ++[r],B.dk.room⟩,aC:=fX B.aC (ar r.e) } w (W.setCell ⟨g,8,none⟩ (.slice A8 (fX B.aC (ar r.e)).length c8))):=ae ⟨⟨g,gl,gd,gr,gt,Z0,Z1,vp,vh,.slice I y.list.length fl,.slice F y.prom.length fp,.slice G y.ab.length fa,.slice A8 (fX B.aC (ar r.e)).length c8,U,vw,kr⟩,Bz,NC,rfl,λk hk=>(HN6.aa k hk).imp id λh=>by have:=NA.aa;omega⟩;clear Bz NC sf iR iA q8 z8 q7 qg C5 d0 d1 d2 d3 d4 d5 d6 d7 Dl;exact ahl
theorem acy{M p B w}(h:bB M p B w)(j:bE B) x u(G:dm x u w)(hfit:cE x)(O:eJ x) :
 Calls prog 138 #[.pointer (some ⟨p.g,0,none⟩),u] w λe w'=>e=.returned (.bool (mU B x).2)/\dK M p (mU B x).1 w w':=by
 have T:=ae λk hk=>h.low k (h.sub k hk)
 have N:=j.dk.len
 have J:=ae λW (k:K w W) v (hv:p6 (mX B.st.list.length x) v W)=>KH (h.st k) j (mX B.st.list.length x) v hv ⟨Qt,by simp only[mX];omega,hfit,Qt,Aj,Aj⟩ O
 have C:=ae λW (k:K w W)=>LM G k
 have q:=h.q
 have y:=av h.bK.now.list
 obtain⟨vf,ve,rfl,I,E⟩:=G
 obtain⟨U,S,rfl⟩:=cA I
 obtain⟨Q,Y,rfl⟩:=av E
 have hb:=ai.new w 126 (aE x (.slice U x.f.length S) (.slice Q x.es.length Y))
 have F:=hb.aU
 obtain⟨g,gl,gd,gr,gt,vd,vr,vp,vh,vl,vq,va,vt,kM,vw,kr⟩:=p
 simp only at q y
 obtain⟨Al,cl,rfl⟩:=y
 have X:IntKind.u64.wrap ((B.st.list.length:Int))=(B.st.list.length:Int):=by rw[IntWalk.u64_in _ (by omega)]
 unfold mU
 generalize dz B (mX B.st.list.length x)=R at *
 clear h j I E N
 go_enter func138,ntmps138
 go_upto_region 1 with (fail)
 generalize w.alloc _=Z at *
 generalize w.heap.size=ga at hb⊢
 have H:=hb.cells
 have A:=λW (k:K Z W)=>q W (F.tr k)
 clear q hb
 have qs:=And.intro A (And.intro H X)
 refine dV 10 ?_
 iterate 10 refine au.i ?_
 clear qs
 intro V W kW hA
 simp only[aO,aR,cC,aJ,Nat.reduceAdd]at hA
 obtain⟨e0,e1,e2,e3,e4,e5,e6,e7,e8,e9,-⟩:=hA
 have t:=F.tr kW
 refine aH.call _ _ rfl ahf ?_
 refine (J.aa W t _ ?_).mono ?_
 ·obtain⟨Bn,Bo,e,h1,h2⟩:=C.aa W t;exact Qf
 rintro e w5⟨rfl,D⟩
 refine⟨_,rfl,?_⟩
 have L:=ae (D.zD t T.aa)
 apply aH.pure
 rfl
 simp[aF,List.lookup,bj,execOp,aG,go_sem]
 rfl
 refine aH.e ?_
 clear D J C A H
 go_wp2
 go_ret
 exact⟨WH,L.aa⟩
theorem aeB{B r}(h:(dz B r).2=false):(dz B r).1=B:=by
 grind [dz]
theorem av6{B r}(h:r.kind≠2):(dz B r).1.aC=B.aC:=by
 grind [dz]
theorem apl{M p B w}(h:bB M p B w)(I:bE B) a(O:dW a) :
 Calls prog 139 #[.pointer (some ⟨p.g,0,none⟩),cN a] w λe w'=>e=.returned (.bool (nY B a).2)/\dK M p (nY B a).1 w w':=by
 have Y:Hid (nY B a=if (dz B (jF 4 a)).2 then ({ (dz B (jF 4 a)).1 with aC:=fX (dz B (jF 4 a)).1.aC a },true)else (B,false)):=ae rfl
 have HX:=ae λk hk=>h.low k (h.sub k hk)
 have oJ:=ae (@aeB B (jF 4 a))
 have HTX:Hid ((dz B (jF 4 a)).1.aC=B.aC):=ae (av6 DZ)
 have Z:∀W,p6 (jF 4 a) (.agg (eY (jF 4 a) (.slice none 0 0) (.slice none 0 0))) W:=λW=>⟨_,_,rfl,⟨none,0,rfl,Reads.nil _ _ _ _⟩,gI _ _⟩
 have E:=ae λW (k:K w W)=>KH (h.st k) I (jF 4 a) _ (Z W) ⟨by simp[jF,cD],DZ,IH,O.1,O.2.1,O.2.2⟩ (by simp[jF,eJ,dD])
 have HG:=ae I.tx
 have hb:=ai.new w 26 #[.int .i64 a.1,.int .u64 a.2.1,.int .u64 a.2.2]
 have A:=hb.aU
 generalize nY B a=R at *
 generalize dz B (jF 4 a)=NB at *
 obtain⟨j,ok⟩:=NB
 simp only[jF,eY,dD]at E
 clear h I Z
 go_enter func139,ntmps139
 go_upto_region 1 with (fail)
 generalize w.alloc _=w1 at *
 have jM:w.heap.size<=w.heap.size:=aD _
 generalize N:w.heap.size=ga at hb⊢
 have JU:=ae N
 clear N jM
 have qa:=hb.cell
 go_wp2_with fail
 refine (E.aa w1 A).mono ?_
 rintro e H⟨rfl,y⟩
 cases ok
 ·have HR:Hid (R=(B,false)):=ae (by rw[Y.aa];rfl);obtain rfl:j=B:=oJ.aa rfl;have HF:=ae (y.zD A HX.aa);clear y E qa;exact Lx
 have HR:Hid (R=({ j with aC:=fX j.aC a },true)):=ae (by rw[Y.aa];rfl)
 have N:=JU.aa
 have U:=y.keeps hb λhx=>WI
 obtain⟨p1,t,hu,hg,hn⟩:=y
 have C5:=ae λW (k:K H W)=>UI j.aC a p1.vt W (t.bK.at k).aC (by rw[HTX.aa];exact HG.aa.small) (by rw[HTX.aa];exact HG.aa.AU)
 have T:=av t.bK.now.aC
 have C:=t.q
 have Hg:=ae t
 have HU:=ae hu
 have E1:=ae hn
 rw[<- Bv hg]
 have Hh:=ae hg
 have G:=U.cells
 obtain⟨L,gl,gd,gr,gt,vd,vr,vp,vh,vl,vq,va,vt,kM,vw,kr⟩:=p1
 simp only at C C5 T
 obtain⟨At,ct,rfl⟩:=T
 clear t hu hn hg E qa hb U
 go_upto_region 3 with (fail)
 have qs:=And.intro C G
 refine dV 7 ?_
 iterate 6 refine au.i ?_
 refine au.op (λv W'=>aX H.heap.size H.heap.size 128 df (fX j.aC a) v W') (λ_ _ _ h k=>h.st k) (λV W kW hp=>?_) ?_
 ·(try simp only[cF,aO,aR,bW,bY,aJ]at hp)
  simp[bR,aF,List.lookup,hp,cW,execOp,aG,C,G,go_sem];exact ahm
 clear qs
 intro V W kW hA
 simp only[aO,aR,cC,aJ,Nat.reduceAdd]at hA
 obtain⟨d0,d1,d2,d3,d4,d5,J,-⟩:=hA
 generalize Dl:V 6=v8 at *
 have u:=Hg.aa.st kW
 have iR:=J.JY Hg.aa.low
 obtain⟨D,F,rfl⟩:=av J.aq
 have q8:=u.blk.cell
 have z8:=u.blk.frozen
 simp only at q8 z8
 iterate 2 (apply aH.pure;rfl;(simp[aF,List.lookup,bj,d0,Dl,execOp,aG,go_sem];rfl))
 refine aH.skip (W.setCell ⟨L,8,none⟩ (.slice D (fX j.aC a).length F)) rfl WN ?_
 refine aH.e ?_
 have Q:=u.Mm iR
 have S:=(ag.aT A _).tr (HU.aa.tr (((ag.aT kW _).tr (ag.bM (X:=bw p) (.inl (by have:=Bv Hh.aa;exact this)) 8 (.slice D (fX j.aC a).length F)))))
 have HF:Hid (dK M p { j with aC:=fX j.aC a } w (W.setCell ⟨L,8,none⟩ (.slice D (fX j.aC a).length F))):=ae ⟨⟨L,gl,gd,gr,gt,vd,vr,vp,vh,vl,vq,va,.slice D (fX j.aC a).length F,kM,vw,kr⟩,Q,S,Hh.aa,λk hk=>(E1.aa k hk).imp id λh=>bn A.size h⟩
 clear Q S u iR J q8 z8 C G C5 d0 d1 d2 d3 d4 d5 Dl
 go_wp2
 go_ret
 exact⟨fW,F4⟩
def yi:ei fH where
 size:=8
 rel m cs w:=∃B j t A y C,cs=(lA m B j t A y C).toList/\aq oG m.cU B w/\aq aV m.asks j w/\aq aV m.entries t w/\aq aV m.fe A w/\aq cd m.dQ y w/\aq cd m.ends C w
 len:=by rintro _ _ _⟨B,j,t,A,y,C,rfl,_⟩;rfl
 one:=by rintro x _ _⟨B,j,t,A,y,C,rfl,H,F,D,G,E,h6⟩ u hu;obtain⟨_,_,rfl⟩:=av H;obtain⟨_,_,rfl⟩:=av F;obtain⟨_,_,rfl⟩:=av D;obtain⟨_,_,rfl⟩:=av G;obtain⟨_,_,rfl⟩:=av E;obtain⟨_,_,rfl⟩:=av h6;exact afC
 st:=by rintro _ _ _ _⟨B,j,t,A,y,C,rfl,H,F,D,G,E,h6⟩ k;exact⟨_,_,_,_,_,_,rfl,bo H k,bo F k,bo D k,bo G k,bo E k,bo h6 k⟩
abbrev Dm:Array Value:=#[.int .i64 0,.int .u64 0,.slice none 0 0,.slice none 0 0,.slice none 0 0,.slice none 0 0,.slice none 0 0,.slice none 0 0]
theorem azn W:mj uH (.agg Dm) W:=⟨_,_,_,_,_,_,rfl,gI _ _,gI _ _,gI _ _,gI _ _,gI _ _,gI _ _⟩
theorem Cv.look{l ak W}(h:Cv l ak W) k:mj (((l.find? λp=>decide (p.1=k)).map (·.2)).getD uH) ((dh ak k).getD (.agg Dm)) W:=by
 have key:∀(l:List (Int×fH)) (ak:List (Int×Value)) (i:Nat),Cv l ak W->mj (((l.find? λp=>decide (p.1=k)).map (·.2)).getD uH) (((gu k ak i).map (·.2)).getD (.agg Dm)) W:=by
  intro l
  induction l with
  | nil => intro ak i h;have:ak=[]:=List.eq_nil_of_length_eq_zero h.1;subst this;exact azn W
  | cons q l A =>
   intro ak i h
   cases ak with
   | nil=>have:=h.1;simp at this
   | cons p ak =>
    have t:=h.2 0 aj aj;simp only[List.getElem_cons_zero]at t;have y:Cv l ak W:=⟨by have:=h.1;simpa using this,λj C B=>by
     have:=h.2 (j+1) aA aA;simpa using this⟩
    unfold gu;by_cases e:q.1=k
    ·rw[List.find?_cons_of_pos B4,if_pos (t.1.trans e)];exact t.2
    ·rw[List.find?_cons_of_neg B4,if_neg (λu=>e (t.1.symm.trans u))];exact A ak (i+1) y
 exact key l ak 0 h
theorem ajG W:(zeroValue 156).run prog W=.ok (.agg Dm) W:=by rfl
theorem ayB:(prog.info? 156).map (λi=>(i.zero,i.size,i.bytes))=some (some (.agg Dm),8,160):=by rfl
theorem TMs:fY prog 164 156 (.agg Dm) 8 160:=⟨underlying164,ayB,rfl,ax⟩
section
variable {α:Type} {S:ei α} {M N X Y:Nat->Prop} {base:Nat} {e:TypeId} {l:List α} {v:Value} {w w':World}
def jl(M:Nat->Prop)(S:ei α)(l:List α)(v:Value)(w:World):Prop :=
 ∃A c css,v=.slice A l.length c/\l.length<=c/\Reads w w.heap.size S.size A l.length css.flatten/\css.length=l.length/\(l≠[]->0<S.size->∀b j,A=some ⟨b,j,none⟩->¬M b)/\∀W,ag M w W->Each S l css W
theorem jl.aq(h:jl M S l v w):Go.Proofs.YtfndfpdhlbmboaaGreat.aq S l v w:=by obtain⟨A,c,css,rfl,t,j,y,-,u⟩:=h;exact⟨A,c,rfl,⟨css,u w (ag.rf _ _),j⟩,t⟩
theorem jl.slice(h:jl M S l v w):∃A c,v=.slice A l.length c:=av h.aq
theorem jl.st(h:jl M S l v w)(k:K w w'):jl M S l v w':=by obtain⟨A,c,css,rfl,t,j,B,hn,y⟩:=h;exact⟨A,c,css,rfl,t,(j.below k (aD _)).more k.size,B,hn,λW u=>y W ((ag.aT k _).tr u)⟩
theorem jl.to(h:jl M S l v w)(u:ag X w w')(H:∀k,X k->M k)(G:∀k,k<w.heap.size->N k->M k)(O:0<S.size):jl N S l v w':=by
 obtain⟨A,c,css,rfl,L,t,P,hn,R⟩:=h;have T:Reads w' w'.heap.size S.size A l.length css.flatten:=by
  refine⟨t.1,λD=>?_⟩;obtain⟨b,B,e,hb,U⟩:=t.2 D;refine⟨b,B,e,bz hb u.size,λj x E=>?_⟩;have V:l≠[]:=by intro e;have:=t.1;rw[e]at this;simp only[List.length_nil,Nat.zero_mul]at this;omega
  have C:=hn V O b B e;rw[<- U j x E];exact World.cell?_of_block (u.block b hb λE=>C (H b E))
 exact⟨A,c,css,rfl,L,T,P,λC I b B F J=>by
  have D:0<css.flatten.length:=by rw[t.1];exact Nat.mul_pos (List.length_pos_iff.2 C) I
  obtain⟨Z,Y,y,hb,-⟩:=t.2 D;rw[F]at y;injection y with y;injection y with e1 e2;subst e1;exact hn C I b B F (G b hb J),λW Q=>R W ((u.more H).gF Q G)⟩
theorem jl.fx(h:jl M S l v w)(j:0<S.size):Fx M (λW=>Go.Proofs.YtfndfpdhlbmboaaGreat.aq S l v W) w:=λ_ u=>(h.to u (λ_ h=>h) (λ_ _ h=>h) j).aq
theorem jl.nil M(S:ei α) w:jl M S [] (.slice none 0 0) w:=⟨none,0,[],rfl,aD _,Reads.nil _ _ _ _,rfl,λh=>absurd rfl h,λ_ _=>Each.nil _ _⟩
theorem jl.at(h:jl M S l v w) i(C:i<l.length)(E:0<S.size):∃b t c cs,v=.slice (some ⟨b,t,none⟩) l.length c/\¬M b/\cs.length=S.size/\Fx M (λW=>S.rel l[i] cs W) w/\∀W,ag M w W->∀j,j<S.size->W.cell? ⟨b,t+i*S.size+j,none⟩=cs[j]?:=by
 obtain⟨A,c,css,rfl,Q,F,T,hn,B⟩:=h;obtain⟨cs,R,H,L,D⟩:=(B w (ag.rf _ _)).get i C;have J:0<css.flatten.length:=by
  grind
 obtain⟨b,t,rfl,hb,I⟩:=F.2 J;have y:=hn aA E b t rfl;refine⟨b,t,c,cs,rfl,y,H,λW u=>?_,λW u j G=>?_⟩
 ·obtain⟨O,U,N,X,V⟩:=(B W u).get i C;grind
 ·have:=D j G;rw[List.getElem?_eq_getElem (show j<cs.length by omega)]at this⊢;rw[Nat.add_assoc,<- I _ _ this];exact World.cell?_of_block (u.block b hb y)
theorem aB.Hi(h:aB Y base e S l v w)(t:∀k,N k->Y k∨v.ownBlock=some k)(hb:∀k,v.ownBlock=some k->¬N k):jl N S l v w:=by
 obtain⟨css,j,B,y⟩:=h;have A:=j;rcases j.2 with ⟨rfl,C⟩|⟨g,cap,cur,rfl,_,_,hn,_⟩
 ·grind [List.eq_nil_of_length_eq_zero,jl.nil]
 ·refine⟨_,_,css,rfl,hn,Reads.yH A,B,λ_ _ b D e=>?_,λW u=>y W (u.more t)⟩;injection e with e;injection e with e1 e2;subst e1;exact hb g rfl
theorem apm{b i u x}(h:w.cell? ⟨b,i,none⟩=some u):(w.setCell ⟨b,i,none⟩ x).cell? ⟨b,i,none⟩=some x:=by
 unfold World.cell? at h⊢
 revert h
 cases hb:w.heap[b]? with
 | none=>simp
 | some o =>
  cases o <;> simp[World.setCell,Array.getElem?_modify,hb]
  grind
theorem Fx.fix(h:Fx M (λW=>aq S l v W) w)(hs:0<S.size)(hS:∀x cs W,S.rel x cs W->cs[0]?≠some (.bool true)):jl M S l v w:=by
 obtain⟨A,c,rfl,⟨css,hE,C⟩,Z⟩:=h.now;have U:l≠[]->0<S.size->∀b y,A=some ⟨b,y,none⟩->¬M b:=by
  rintro E-b y rfl hM
  have hp:=List.length_pos_iff.2 E
  obtain⟨cs,T,N,g3,g4⟩:=hE.get 0 hp
  have F:0<css.flatten.length:=aA
  obtain⟨b',off',e,hb,Q⟩:=C.2 F
  injection e with e
  injection e with e1 e2
  subst e1 e2
  have hc0:=Q 0 _ (List.getElem?_eq_getElem F)
  obtain⟨A',c',t,⟨B,D,hR'⟩,-⟩:=h (w.setCell ⟨b,y+0,none⟩ (.bool true)) (ag.bM hM _ _)
  injection t with t _ _
  subst t
  have H:0<B.flatten.length:=ahn
  obtain⟨b'',aEz,O,-,L⟩:=hR'.2 H
  injection O with O
  injection O with e1 e2
  subst e1 e2
  have aAd:=L 0 _ (List.getElem?_eq_getElem H)
  rw[apm hc0]at aAd
  obtain⟨X,f1,f2,f3,f4⟩:=D.get 0 hp
  grind
 refine⟨A,c,css,rfl,Z,C,hE.1,U,λW u=>?_⟩;obtain⟨A',c',t,⟨B,D,hR'⟩,-⟩:=h W u;injection t with t _ _;subst t;by_cases E:l=[]
 ·subst E;have:=hE.1;simp at this;subst this;exact Each.nil _ _
 have hp:=List.length_pos_iff.2 E;have F:0<css.flatten.length:=by rw[C.1];exact Nat.mul_pos hp hs
 have H:0<B.flatten.length:=ahn;obtain⟨b,y,rfl,hb,Q⟩:=C.2 F;obtain⟨b',off',e,hb',L⟩:=hR'.2 H;injection e with e;injection e with e1 e2;subst e1 e2;have heq:css.flatten=B.flatten:=by
  refine List.ext_getElem (by rw[C.1,hR'.1]) λj h1 R=>?_
  have T:=Q j _ (List.getElem?_eq_getElem h1);have N:=L j _ (List.getElem?_eq_getElem R);rw[World.cell?_of_block (u.block b hb (U E hs b y rfl)),T]at N;injection N
 have:css=B:=by
  refine List.ext_getElem (by rw[hE.1,D.1]) λi h1 R=>?_
  obtain⟨cs,J,a2,a3,a4⟩:=hE.get i aho;obtain⟨X,I,b2,b3,b4⟩:=D.get i aho;rw[List.getElem?_eq_getElem h1]at J;rw[List.getElem?_eq_getElem R]at I;injection J with J;injection I with I;rw[J,I];refine List.ext_getElem af λj V Y=>?_
  have G:=a4 j af;have q2:=b4 j af;rw[heq,q2,List.getElem?_eq_getElem V,List.getElem?_eq_getElem Y]at G;injection G with G;exact G.symm
 rw[this];exact D
end
