/-
  The walks of broker's Commit, Abort, Publish (layer 20). Conditions: none.
-/
import Derived.Test.YtfndfpdhlbmboaaGreatMd14
import Derived.Test.YtfndfpdhlbmboaaGreatMdz
set_option maxRecDepth 100000
set_option linter.constructorNameAsVariable false
set_option maxHeartbeats 16000000
set_option linter.unusedVariables false
set_option linter.unusedSimpArgs false
namespace Go.Proofs.YtfndfpdhlbmboaaGreat
open Go Go.RowKit _root_.Go.Proofs.Tryz
theorem aH.call{P j E k o r x xs V w}
 f args (hg:o.guard=none) (t:(execOp (aF x.2 j V) (aG o.op o.type)).run P w=.ok (.enter f args) w) (h:Calls P f args w λe u=>∃v,e=.returned v/\aH P j E (k+1) r xs (bj V k v) u):aH P j E k (o :: r) (x :: xs) V w:=by
 unfold aH
 rw[hg,if_pos (show bR V none=true from rfl),t]
 exact h
theorem jI.AU{l}(h:jI l):l.length<=1000000:=by have:=h.len;omega
theorem apj{M p B w}(h:bB M p B w)(u:bE B) a :
 Calls prog 55 #[.pointer (some ⟨p.g,0,none⟩),cN a] w λe w'=>e=.returned (.int .i64 (fK B (jx B.aC a)).2)/\dK M p (fK B (jx B.aC a)).1 w w':=by
 have y:=ae λW (k:K w W)=>ar4 B.aC a p.vt W (h.bK.at k).aC u.tx.small u.tx.AU
 have H:=ae h
 have hz:=λk hk=>h.low k hk
 have O:=ae λk hk=>h.low k (h.sub k hk)
 have D:=ae λW (k:K w W) v X=>acw (h.st k) (l:=(jx B.aC a).1) (v:=v) (jx B.aC a).2 X
 have q:=h.q
 have hb:=ai.new w 26 #[.int .i64 a.1,.int .u64 a.2.1,.int .u64 a.2.2]
 have t:=hb.aU
 have E:=av h.bK.now.aC
 obtain⟨g,gl,gd,gr,gt,vd,vr,vp,vh,vl,vq,va,vt,vf,vw,kr⟩:=p
 simp only at q y E
 obtain⟨At,ct,rfl⟩:=E
 generalize T:jx B.aC a=R at *
 obtain⟨A,rc⟩:=R
 have Y:=ae hz
 clear h u T hz
 go_enter func55,ntmps55
 go_upto_region 1 with (fail)
 generalize w.alloc _=j at *
 generalize w.heap.size=ga at hb⊢
 have J:=hb.cells
 have F:=λW (k:K j W)=>q W (t.tr k)
 clear q hb
 go_upto_region 3 with (fail)
 have qs:=And.intro F J
 refine dV 9 ?_
 iterate 6 refine au.i ?_
 refine au.op (λv W=>∃v',v=.tuple #[v',.int .i64 rc]/\aX j.heap.size j.heap.size 128 df A v' W) (λ_ _ _ ⟨v',e,h⟩ k=>⟨v',e,h.st k⟩) (λV W kW hp=>?_) ?_
 ·(try simp only[cF,aO,aR,bW,bY,aJ]at hp)
  simp[bR,aF,List.lookup,hp,cW,execOp,aG,F,J,go_sem];refine (y.aa W (t.tr kW)).mono ?_;rintro e w4⟨v4,rfl,hO,N⟩;exact⟨_,rfl,⟨_,rfl,aX.low (aX.floor hO kW.size) kW.size⟩,N⟩
 refine au.op (λv W=>aX j.heap.size j.heap.size 128 df A v W) (λ_ _ _ h k=>h.st k) (λV W kW hp=>?_) ?_
 ·exact Qq
 refine au.is (.int .i64 rc) (λV W kW hp=>?_) ?_
 ·exact Qr
 clear qs
 intro V W kW hA
 simp only[aO,aR,cC,aJ,Nat.reduceAdd]at hA
 obtain⟨Q,e1,e2,e3,Z,e5,⟨v',e6,U⟩,hO,S,-⟩:=hA
 have C:=t.tr kW
 have G:=(aX.tO hO).fx (λ_ h=>h) |>.less λk hk=>bz (Y.aa k hk) t.size
 refine aH.call _ _ rfl (by simp[aF,List.lookup,bj,Q,S,execOp,aG,go_sem];exact⟨rfl,rfl⟩) ?_
 refine (D.aa W C (V 7) G).mono ?_
 rintro e w5⟨rfl,I⟩
 refine⟨_,rfl,?_⟩
 have L:=ae (I.zD C O.aa)
 apply aH.pure
 rfl
 simp[aF,List.lookup,bj,execOp,aG,go_sem]
 rfl
 refine aH.e ?_
 clear hO U G I y D
 go_wp2
 go_ret
 exact⟨WH,L.aa⟩
def yd(lo:Nat){α:Type}(S:ei α)(l:List α)(v:Value)(w:World):Prop:=∀W,aI lo none w W->aq S l v W
theorem yd.st{lo α S}{l:List α}{v w w'}(h:yd lo S l v w)(k:K w w'):yd lo S l v w':=λW u=>h W ((aI.aT k _ _).tr u)
theorem yd.low{lo j α S}{l:List α}{v w}(h:yd lo S l v w)(k:j<=lo):yd j S l v w:=λW u=>h W (u.more k λ_ _ h=>h)
theorem yd.fx{lo α S}{l:List α}{v w M}(h:yd lo S l v w)(j:∀k,M k->k<lo):Fx M (λW=>aq S l v W) w:=Fx.fresh h j
theorem aoU{M p B w}(h:bB M p B w)(t:bE B) a j u(D:ji j u w)(X:j.length<=1000000)(G:∀x∈j,nJ x) :
 Calls prog 84 #[.pointer (some ⟨p.g,0,none⟩),cN a,u] w λe w'=>e=.returned (.int .i64 (fK B (jm B.aC a j)).2)/\dK M p (fK B (jm B.aC a j)).1 w w':=by
 have A:=ae λW (k:K w W)=>aqJ B.aC a j p.vt u W (h.bK.at k).aC (qC _ _ _ _ D k) t.tx.small (λs Y=>(t.tx.each s Y).2.1) X G t.tx.AU
 have H:=ae h
 have hz:=λk hk=>h.low k hk
 have U:=ae λk hk=>h.low k (h.sub k hk)
 have I:=ae λW (k:K w W) v hv=>acw (h.st k) (l:=(jm B.aC a j).1) (v:=v) (jm B.aC a j).2 hv
 have q:=h.q
 have hb:=ai.new w 26 #[.int .i64 a.1,.int .u64 a.2.1,.int .u64 a.2.2]
 have y:=hb.aU
 have J:=av h.bK.now.aC
 obtain⟨g,gl,gd,gr,gt,vd,vr,vp,vh,vl,vq,va,vt,vf,vw,kr⟩:=p
 simp only at q A J
 obtain⟨At,ct,rfl⟩:=J
 obtain⟨Au,cu,rfl⟩:=yy D
 generalize Z:jm B.aC a j=R at *
 obtain⟨E,rc⟩:=R
 have HZ:=ae hz
 clear h t Z hz D G
 go_enter func84,ntmps84
 go_upto_region 1 with (fail)
 generalize w.alloc _=C at *
 generalize w.heap.size=ga at hb⊢
 have Q:=hb.cells
 have L:=λW (k:K C W)=>q W (y.tr k)
 clear q hb
 go_upto_region 3 with (fail)
 have qs:=And.intro L Q
 refine dV 10 ?_
 iterate 7 refine au.i ?_
 refine au.op (λv W=>∃v',v=.tuple #[v',.int .i64 rc]/\yd C.heap.size df E v' W) (λ_ _ _ ⟨v',e,h⟩ k=>⟨v',e,h.st k⟩) (λV W kW hp=>?_) ?_
 ·(try simp only[cF,aO,aR,bW,bY,aJ]at hp)
  simp[bR,aF,List.lookup,hp,cW,execOp,aG,L,Q,go_sem];refine (A.aa W (y.tr kW)).mono ?_;rintro e w4⟨v4,rfl,hO,T⟩;exact⟨_,rfl,⟨_,rfl,yd.low hO kW.size⟩,T⟩
 refine au.op (λv W=>yd C.heap.size df E v W) (λ_ _ _ h k=>h.st k) (λV W kW hp=>?_) ?_
 ·exact Qq
 refine au.is (.int .i64 rc) (λV W kW hp=>?_) ?_
 ·exact Qr
 clear qs
 intro V W kW hA
 simp only[aO,aR,cC,aJ,Nat.reduceAdd]at hA
 obtain⟨e0,e1,e2,e3,e4,e5,e6,⟨v',e7,dU⟩,hO,e9,-⟩:=hA
 have F:=y.tr kW
 have N:=yd.fx hO λk hk=>bz (HZ.aa k hk) y.size
 refine aH.call _ _ rfl ahf ?_
 refine (I.aa W F (V 8) N).mono ?_
 rintro e w5⟨rfl,O⟩
 refine⟨_,rfl,?_⟩
 have S:=ae (O.zD F U.aa)
 apply aH.pure
 rfl
 simp[aF,List.lookup,bj,execOp,aG,go_sem]
 rfl
 refine aH.e ?_
 clear hO dU N O A I
 go_wp2
 go_ret
 exact⟨WH,S.aa⟩
theorem bE.new{B}(j:bE B):dW (jG B):=by
 have u:=j.me;have y:=j.calls;have t:=j.dk.inv.life;have A:=sA j.tr;simp only[fA,dC,decide_eq_true_eq]at u;refine⟨?_,t,?_⟩
 ·grind [dW,jG,cD]
 ·grind [dW,jG]
theorem apk{M p B w}(h:bB M p B w)(j:bE B) c(U:cD c) gb E(G:ai w gb 90 #[.pointer (some ⟨p.g,0,none⟩)])(N:ai w E 3 #[.int .i64 c]) :
 Calls prog 100 #[cN (jG B),.pointer (some ⟨gb,0,none⟩),.pointer (some ⟨E,0,none⟩)] w λe w'=>∃v',e=.returned (.tuple #[v',.int .i64 (vW B.aC (jG B) c).2])/\aX w.heap.size w.heap.size 128 df (vW B.aC (jG B) c).1 v' w'/\K w w':=by
 have C1:=ae λW (k:K w W)=>aqG B.aC (jG B) c p.vt W (h.bK.at k).aC j.new U j.tx.small j.tx.AU
 have q:=h.q
 have t:=G.cells
 have L:=N.cells
 have J:=av h.bK.now.aC
 generalize jG B=a at *
 have hb:=ai.new w 26 #[.int .i64 a.1,.int .u64 a.2.1,.int .u64 a.2.2]
 have k1:=hb.aU
 obtain⟨g,gl,gd,gr,gt,vd,vr,vp,vh,vl,vq,va,vt,vf,vw,kr⟩:=p
 simp only at q C1 J t
 obtain⟨At,ct,rfl⟩:=J
 generalize vW B.aC a c=R at *
 obtain⟨H,rc⟩:=R
 clear h j G N
 go_enter func100,ntmps100
 go_upto_region 1 with (fail)
 generalize w.alloc _=C at *
 obtain⟨lo,hlo⟩:∃lo,Hid (lo=w.heap.size):=⟨_,ae rfl⟩
 generalize w.heap.size=ga at hb⊢
 have D:=hb.cells
 have u:=λW (k:K C W)=>q W (k1.tr k)
 have y:=λW (k:K C W)=>t W (k1.tr k)
 have A:=λW (k:K C W)=>L W (k1.tr k)
 clear q t L hb
 have qs:=And.intro u (And.intro D (And.intro y A))
 refine dV 9 ?_
 iterate 6 refine au.i ?_
 refine au.op (λv W=>∃v',v=.tuple #[v',.int .i64 rc]/\aX lo lo 128 df H v' W) (λ_ _ _ ⟨v',e,h⟩ k=>⟨v',e,h.st k⟩) (λV W kW hp=>?_) ?_
 ·(try simp only[cF,aO,aR,bW,bY,aJ]at hp)
  simp[bR,aF,List.lookup,hp,cW,execOp,aG,u,D,y,A,go_sem];exact ahg
 refine au.op (λv W=>aX lo lo 128 df H v W) (λ_ _ _ h k=>h.st k) (λV W kW hp=>?_) ?_
 ·exact Qq
 refine au.is (.int .i64 rc) (λV W kW hp=>?_) ?_
 ·exact Qr
 clear qs
 intro V W kW hA
 simp only[aO,aR,cC,aJ,Nat.reduceAdd]at hA
 obtain⟨Z,Q,X,S,O,e5,⟨v',e6,dU⟩,hO,I,-⟩:=hA
 have Y:=k1.tr kW
 generalize F:V 7=v7 at *
 have nc:=av hO.aq
 obtain⟨A7,c7,rfl⟩:=nc
 apply aH.pure
 rfl
 simp[aF,List.lookup,bj,F,execOp,aG,go_sem]
 rfl
 apply aH.pure
 rfl
 simp[aF,List.lookup,bj,I,execOp,aG,go_sem]
 rfl
 refine aH.e ?_
 have T:=ae hO
 clear hO dU C1 u D y A F Z Q X S O e5 e6 I
 go_wp2
 go_ret2
 exact⟨_,rfl,by rw[<- hlo.aa];exact T.aa,Y⟩
theorem aqK{M p B w}(h:bB M p B w)(u:bE B) c(hc:cD c)(n:Nat)(hn:n<18446744073709551616) f N(O:fF f N w)(S:∀t∈f,jB t)(cR:f.length<=1000000) gb U gn gf(Y:ai w gb 90 #[.pointer (some ⟨p.g,0,none⟩)])(sQ:ai w U 3 #[.int .i64 c])(Q:ai w gn 24 #[.int .u64 n])(yg:ai w gf 53 #[N]) :
 Calls prog 131 #[cN (jG B),.pointer (some ⟨gb,0,none⟩),.pointer (some ⟨U,0,none⟩),.pointer (some ⟨gn,0,none⟩),.pointer (some ⟨gf,0,none⟩)] w λe w'=>∃v',e=.returned (.tuple #[v',.int .i64 (xJ B.aC (rT B 2 c n f)).2])/\aX w.heap.size w.heap.size 128 df (xJ B.aC (rT B 2 c n f)).1 v' w'/\K w w':=by
 have C:=u.new
 have hfit:cE (rT B 2 c n f):=⟨by simp[rT,cD],C.1,hc,C.2.1,C.2.2,hn,S,by simp[rT]⟩
 have C1:=ae λW (k:K w W)=>atZ B.aC (rT B 2 c n f) p.vt (.agg (aE (rT B 2 c n f) N (.slice none 0 0))) W (h.bK.at k).aC ⟨_,_,rfl,eO _ _ _ _ O k,gI _ _⟩ hfit (by simp[eJ,rT];exact cR) u.tx.small u.tx.AU
 have q:=h.q
 have A:=Y.cells
 have qc:=sQ.cells
 have Z:=Q.cells
 have T:=yg.cells
 obtain⟨Af,cf,rfl⟩:=cA O
 have hs1:=av h.bK.now.aC
 simp only[rT]at C1
 have J:Hid (jG B=(B.me,B.st.life,B.calls+1)):=ae rfl
 obtain⟨n1,H⟩:∃n,n=B.calls+1:=⟨_,rfl⟩
 rw[<- H]at C1 J
 rw[J.aa]
 generalize y:xJ B.aC (rT B 2 c n f)=R at *
 simp only[rT]at y
 rw[<- H]at y
 rw[y]at C1
 clear H y J
 have hb:=ai.new w 26 #[.int .i64 B.me,.int .u64 B.st.life,.int .u64 n1]
 have k1:=hb.aU
 obtain⟨g,gl,gd,gr,gt,vd,vr,vp,vh,vl,vq,va,vt,vf,vw,kr⟩:=p
 simp only at q C1 hs1 A
 obtain⟨At,ct,rfl⟩:=hs1
 obtain⟨rl,rc⟩:=R
 clear h u Y sQ Q hfit yg O S
 go_enter func131,ntmps131
 go_upto_region 1 with (fail)
 generalize w.alloc _=j at *
 obtain⟨lo,hlo⟩:∃lo,Hid (lo=w.heap.size):=⟨_,ae rfl⟩
 generalize w.heap.size=ga at hb⊢
 have L:=hb.cells
 have E:=λW (k:K j W)=>q W (k1.tr k)
 have F:=λW (k:K j W)=>A W (k1.tr k)
 have G:=λW (k:K j W)=>qc W (k1.tr k)
 have D:=λW (k:K j W)=>Z W (k1.tr k)
 have I:=λW (k:K j W)=>T W (k1.tr k)
 clear T
 clear q A qc Z hb
 have qs:=And.intro E (And.intro L (And.intro F (And.intro G (And.intro D I))))
 refine dV 12 ?_
 iterate 9 refine au.i ?_
 refine au.op (λv W=>∃v',v=.tuple #[v',.int .i64 rc]/\aX lo lo 128 df rl v' W) (λ_ _ _ ⟨v',e,h⟩ k=>⟨v',e,h.st k⟩) (λV W kW hp=>?_) ?_
 ·(try simp only[cF,aO,aR,bW,bY,aJ]at hp)
  simp[bR,aF,List.lookup,hp,cW,execOp,aG,E,L,F,G,D,I,go_sem];exact ahg
 refine au.op (λv W=>aX lo lo 128 df rl v W) (λ_ _ _ h k=>h.st k) (λV W kW hp=>?_) ?_
 ·exact Qq
 refine au.is (.int .i64 rc) (λV W kW hp=>?_) ?_
 ·exact Qr
 clear qs
 intro V W kW hA
 simp only[aO,aR,cC,aJ,Nat.reduceAdd]at hA
 obtain⟨e0,e1,e2,e3,e4,e5,e6,e7,e8,⟨v',ev,dU⟩,hO,ec,-⟩:=hA
 have kF:=k1.tr kW
 generalize X:V 10=v7 at *
 have nc:=av hO.aq
 obtain⟨A7,c7,rfl⟩:=nc
 apply aH.pure
 rfl
 simp[aF,List.lookup,bj,X,execOp,aG,go_sem]
 rfl
 apply aH.pure
 rfl
 simp[aF,List.lookup,bj,ec,execOp,aG,go_sem]
 rfl
 refine aH.e ?_
 have HO:=ae hO
 clear hO dU C1 E L F G D I X e0 e1 e2 e3 e4 e5 e6 e7 e8 ev ec
 go_wp2
 go_ret2
 exact⟨_,rfl,by rw[<- hlo.aa];exact HO.aa,kF⟩
section
variable {M:Nat->Prop} {p:nU} {B B':aZ} {w w1 w2 w3:World} {g9:Nat}
theorem bB.E6(h:bB M p B w)(k:K w w1)(y:w.heap.size<=g9)(t:g9<w1.heap.size):bB (λk=>M k∨k=g9) p B w1 :=
 h.far (X:=λ_=>False) (ag.aT k _) (λ_ h=>h.elim) (λ_ h=>h.elim) (λk hk u=>u.resolve_right af) (λk hk=>.inl (h.sub k hk)) λb hb=>hb.elim (λj=>bz (h.low b j) k.size) λe=>e▸t
theorem dK.scratch(h:dK (λk=>M k∨k=g9) p B' w1 w2)(u:ag (λk=>k=g9) w2 w3)(k:K w w1)(G:w.heap.size<=g9)(F:g9<w1.heap.size)(C:∀k,bw p k->k<w.heap.size)(D:∀k,M k->k<w.heap.size):dK M p B' w w3:=by
 obtain⟨p',y,t,hg,hn⟩:=h;have B:¬bw p' g9:=λj=>(hn g9 j).elim (λh=>aA) λh=>af
 have E:=t.size;have A:=u.size;refine⟨p',y.far u (λk hk=>.inl (.inr hk)) (λk hk j=>B (hk▸j)) (λk _ j=>j.imp .inl id) (λk hk=>.inr hk) (λk hk=>hk.elim (λh=>aA) λh=>bz (y.low k (.inr h)) A),((ag.aT k _).tr t).gF u λk hk e=>af,hg,λk hk=>(hn k hk).imp id λh=>af⟩
theorem dK.keeps{t cs}(h:dK M p B' w1 w2)(hb:ai w1 g9 t cs)(hg:¬bw p g9):ai w2 g9 t cs:=by obtain⟨p',u,j,-⟩:=h;exact hb.aW j hg
end
theorem apR{M p B w}(h:bB M p B w)(G:bE B) c(J:cD c) :
 Calls prog 49 #[.pointer (some ⟨p.g,0,none⟩),.int .i64 c] w λe w'=>e=.returned (.tuple #[cN (tz B c).2.1,.int .i64 (tz B c).2.2])/\dK M p (tz B c).1 w w':=by
 have HX:=ae λk hk=>h.low k (h.sub k hk)
 have HM:=ae h.low
 have F:=((ai.new w 90 #[.pointer (some ⟨p.g,0,none⟩)]).alloc (.cells #[.int .i64 c] 3)).alloc (.cells #[.int .i64 0,.int .u64 0,.int .u64 0] 26)
 have E:=(ai.new (w.alloc (.cells #[.pointer (some ⟨p.g,0,none⟩)] 90)) 3 #[.int .i64 c]).alloc (.cells #[.int .i64 0,.int .u64 0,.int .u64 0] 26)
 have C:=ai.new ((w.alloc (.cells #[.pointer (some ⟨p.g,0,none⟩)] 90)).alloc (.cells #[.int .i64 c] 3)) 26 #[.int .i64 0,.int .u64 0,.int .u64 0]
 have Q:=K.Rk w (.cells #[.pointer (some ⟨p.g,0,none⟩)] 90) (.cells #[.int .i64 c] 3) (.cells #[.int .i64 0,.int .u64 0,.int .u64 0] 26)
 simp only[World.size_alloc]at E C
 generalize L:w.heap.size+1+1=t at C
 have h9:w.heap.size<=t:=af
 have H:=h.E6 Q h9 C.lt
 have S:=ae (acx H G c 100 #[.pointer (some ⟨w.heap.size,0,none⟩),.pointer (some ⟨w.heap.size+1,0,none⟩)] (vW B.aC (jG B) c) (λargs W=>cV) (λW kW=>apk (H.st kW) G c J _ _ (F.ay kW) (E.ay kW)))
 have O:Hid (tz B c=jq B c (vW B.aC (jG B) c)):=ae rfl
 generalize tz B c=R at *
 generalize jq B c (vW B.aC (jG B) c)=U at *
 obtain⟨B',j,ec⟩:=U
 have N:=ae λy w3 (A:dK (λk=>M k∨k=t) p B' _ y) (u:ag (λk=>k=t) y w3)=>A.scratch u Q h9 C.lt HX.aa HM.aa
 have T:=ae λy (A:dK (λk=>M k∨k=t) p B' _ y)=>A.keeps C λhx=>WI
 have q1:=F.cell
 have q2:=E.cell
 have HG9:=ae L
 clear h G C H J h9 F E
 go_enter func49,ntmps49
 go_upto_region 1 with (fail)
 generalize World.alloc (World.alloc (World.alloc w _) _) _=w1 at *
 clear L
 go_wp2_with fail
 apply aM S.aa
 intro y A
 have D:=T.aa _ A
 have I:=ae (N.aa _ · A)
 have qr:=D.cell
 have zr:=D.frozen
 clear S N T A q1 q2
 go_wp2
 have V:ai (World.setCell (World.setCell (World.setCell y _ _) _ _) _ _) t 26 #[.int .i64 j.1,.int .u64 j.2.1,.int .u64 j.2.2]:=((D.aQ 0 (.int .i64 j.1)).aQ 1 (.int .u64 j.2.1)).aQ 2 (.int .u64 j.2.2)
 have Y:=ae (I.aa _ (((ag.bM (X:=λk=>k=t) rfl 0 (.int .i64 j.1)).tr (ag.bM (X:=λk=>k=t) rfl 1 (.int .u64 j.2.1))).tr (ag.bM (X:=λk=>k=t) rfl 2 (.int .u64 j.2.2))))
 clear qr zr D I
 generalize World.setCell (World.setCell (World.setCell y _ _) _ _) _ _=W9 at *
 have Z:=V.cell
 try rw[iq]
 refine bodyPost_ret (v:=.tuple #[cN j,.int .i64 ec]) (by simp[results,results49,go_sem,Z]) rfl ?_
 exact⟨by rw[O.aa],by rw[O.aa];exact Y.aa⟩
theorem ar6{M p B w}(h:bB M p B w)(N:bE B) c(V:cD c)(n:Nat)(hn:n<18446744073709551616) f J7(S:fF f J7 w)(U:∀t∈f,jB t)(cR:f.length<=1000000) :
 Calls prog 77 #[.pointer (some ⟨p.g,0,none⟩),.int .i64 c,.int .u64 n,J7] w λe w'=>e=.returned (.tuple #[cN (yX B c n f).2.1,.int .i64 (yX B c n f).2.2])/\dK M p (yX B c n f).1 w w':=by
 obtain⟨E,C,e0⟩:=cA S
 subst e0
 have HX:=ae λk hk=>h.low k (h.sub k hk)
 have HM:=ae h.low
 have L:=(((((ai.new w 90 #[.pointer (some ⟨p.g,0,none⟩)]).alloc (.cells #[.int .i64 c] 3)).alloc (.cells #[.int .u64 n] 24)).alloc (.cells #[(Value.slice E f.length C)] 53)).alloc (.cells #[.int .i64 0,.int .u64 0,.int .u64 0] 26))
 have H:=((((ai.new (w.alloc (.cells #[.pointer (some ⟨p.g,0,none⟩)] 90)) 3 #[.int .i64 c]).alloc (.cells #[.int .u64 n] 24)).alloc (.cells #[(Value.slice E f.length C)] 53)).alloc (.cells #[.int .i64 0,.int .u64 0,.int .u64 0] 26))
 have J:=(((ai.new ((w.alloc (.cells #[.pointer (some ⟨p.g,0,none⟩)] 90)).alloc (.cells #[.int .i64 c] 3)) 24 #[.int .u64 n]).alloc (.cells #[(Value.slice E f.length C)] 53)).alloc (.cells #[.int .i64 0,.int .u64 0,.int .u64 0] 26))
 have I:=((ai.new (((w.alloc (.cells #[.pointer (some ⟨p.g,0,none⟩)] 90)).alloc (.cells #[.int .i64 c] 3)).alloc (.cells #[.int .u64 n] 24)) 53 #[(Value.slice E f.length C)]).alloc (.cells #[.int .i64 0,.int .u64 0,.int .u64 0] 26))
 have F:=ai.new ((((w.alloc (.cells #[.pointer (some ⟨p.g,0,none⟩)] 90)).alloc (.cells #[.int .i64 c] 3)).alloc (.cells #[.int .u64 n] 24)).alloc (.cells #[(Value.slice E f.length C)] 53)) 26 #[.int .i64 0,.int .u64 0,.int .u64 0]
 have O:=K.azJ w (.cells #[.pointer (some ⟨p.g,0,none⟩)] 90) (.cells #[.int .i64 c] 3) (.cells #[.int .u64 n] 24) (.cells #[(Value.slice E f.length C)] 53) (.cells #[.int .i64 0,.int .u64 0,.int .u64 0] 26)
 simp only[World.size_alloc]at H J I F
 generalize Y:w.heap.size+1+1+1+1=y at F
 have h9:w.heap.size<=y:=af
 have Q:=h.E6 O h9 F.lt
 have C1:=ae (acx Q N c 131 #[.pointer (some ⟨w.heap.size,0,none⟩),.pointer (some ⟨w.heap.size+1,0,none⟩),.pointer (some ⟨w.heap.size+1+1,0,none⟩),.pointer (some ⟨w.heap.size+1+1+1,0,none⟩)] (xJ B.aC (rT B 2 c n f)) (λargs W=>cV) (λW kW=>aqK (Q.st kW) N c V n hn f (Value.slice E f.length C) (eO _ _ _ _ S (O.tr kW)) U cR _ _ _ _ (L.ay kW) (H.ay kW) (J.ay kW) (I.ay kW)))
 have Nv:Hid (yX B c n f=jq B c (xJ B.aC (rT B 2 c n f))):=ae rfl
 generalize yX B c n f=R at *
 generalize jq B c (xJ B.aC (rT B 2 c n f))=RR at *
 obtain⟨B',j,ec⟩:=RR
 have Z:=ae λA w3 (D:dK (λk=>M k∨k=y) p B' _ A) (u:ag (λk=>k=y) A w3)=>D.scratch u O h9 F.lt HX.aa HM.aa
 have HR:=ae λA (D:dK (λk=>M k∨k=y) p B' _ A)=>D.keeps F λhx=>WI
 have q1:=L.cell
 have q2:=H.cell
 have q3:=J.cell
 have q4:=I.cell
 have HG9:=ae Y
 clear h N F Q V h9 S U L H J I
 go_enter func77,ntmps77
 go_upto_region 1 with (fail)
 generalize World.alloc (World.alloc (World.alloc (World.alloc (World.alloc w _) _) _) _) _=w1 at *
 clear Y
 go_wp2_with fail
 apply aM C1.aa
 intro A D
 have G:=HR.aa _ D
 have T:=ae (Z.aa _ · D)
 have qr:=G.cell
 have zr:=G.frozen
 clear C1 Z HR D q1 q2 q3 q4
 go_wp2
 have tK:ai (World.setCell (World.setCell (World.setCell A _ _) _ _) _ _) y 26 #[.int .i64 j.1,.int .u64 j.2.1,.int .u64 j.2.2]:=((G.aQ 0 (.int .i64 j.1)).aQ 1 (.int .u64 j.2.1)).aQ 2 (.int .u64 j.2.2)
 have HF:=ae (T.aa _ (((ag.bM (X:=λk=>k=y) rfl 0 (.int .i64 j.1)).tr (ag.bM (X:=λk=>k=y) rfl 1 (.int .u64 j.2.1))).tr (ag.bM (X:=λk=>k=y) rfl 2 (.int .u64 j.2.2))))
 clear qr zr G T
 generalize World.setCell (World.setCell (World.setCell A _ _) _ _) _ _=W9 at *
 have e9:=tK.cell
 try rw[iq]
 refine bodyPost_ret (v:=.tuple #[cN j,.int .i64 ec]) (by simp[results,results77,go_sem,e9]) rfl ?_
 exact⟨by rw[Nv.aa],by rw[Nv.aa];exact HF.aa⟩
theorem ab7 x v w(h:dm x v w)(S:eJ x) :
 Calls prog 122 #[v] w λe w'=>∃v',e=.returned v'/\wy w.heap.size x v' w'/\K w w':=by
 have N:=ae func122
 have V:=ae ntmps122
 have zR:=ae results122
 obtain⟨vf,ve,rfl,X,he⟩:=h
 obtain⟨A,c,G,H⟩:=X
 obtain rfl:=G
 obtain⟨D,d,G,he,Q⟩:=he
 obtain rfl:=G
 obtain⟨T,R,J⟩:=S
 obtain⟨k,b,l,s,cl,u,f,es⟩:=x
 simp only at H he Q T R J⊢
 have B:=(ai.new w 126 (aE ⟨k,b,l,s,cl,u,f,es⟩ (.slice A f.length c) (.slice D es.length d))).alloc (.cells eQ 126)
 have E:=ai.new (w.alloc (.cells (aE ⟨k,b,l,s,cl,u,f,es⟩ (.slice A f.length c) (.slice D es.length d)) 126)) 126 eQ
 have I:=K.lW w (.cells (aE ⟨k,b,l,s,cl,u,f,es⟩ (.slice A f.length c) (.slice D es.length d)) 126) (.cells eQ 126)
 have hz:(w.alloc (.cells (aE ⟨k,b,l,s,cl,u,f,es⟩ (.slice A f.length c) (.slice D es.length d)) 126)).heap.size=w.heap.size+1:=aj
 rw[hz]at E
 clear hz
 have GU:=ae J
 clear J
 go_enter N.aa,V.aa
 go_upto_region 1 with (fail)
 generalize World.alloc (World.alloc w _) _=w1 at *
 have O:=(H.below I (aD _)).more I.size
 have Y:=E.lt
 clear H
 have q:=B.cell
 have z:=B.frozen
 go_wp2_with (at_builtin;refine iW rfl _ _ 53 rfl w1.heap.size 73 _ 5 56 TF _ 0 [] rfl (kU _ _ _ _) _ A f.length c (f.flatMap fR) rfl O (IA f) ?p1 (aD _) ?_)
 case p1=>omega
 intro U t F _ _ aN
 have C:=B.ay aN
 have L:=E.ay aN
 have M:=I.tr aN
 obtain⟨A1,c1,rfl,-⟩:=(show fT t w1.heap.size U f from F).slice
 clear q z B E
 have q:=C.cell
 have z:=C.frozen
 have Z:=aN.size
 clear aN
 go_upto_region 3 with (fail)
 have eE:ai (t.setCell ⟨w.heap.size,6,none⟩ (.slice A1 f.length c1)) w.heap.size 126 #[.int .i64 k,.int .i64 b,.int .u64 l,.int .u64 s,.int .i64 cl,.int .u64 u,.slice A1 f.length c1,.slice D es.length d]:=C.aQ 6 (.slice A1 f.length c1)
 have dN:=L.far (p:=⟨w.heap.size,6,none⟩) aj (.slice A1 f.length c1)
 have k3:K w (t.setCell ⟨w.heap.size,6,none⟩ (.slice A1 f.length c1)):=K.set M (aD _) 6 _
 have eN:fT (t.setCell ⟨w.heap.size,6,none⟩ (.slice A1 f.length c1)) w1.heap.size (.slice A1 f.length c1) f:=fT.up F (aI.set af 6 _)
 have rX:w.heap.size+1<(t.setCell ⟨w.heap.size,6,none⟩ (.slice A1 f.length c1)).heap.size:=Lp
 clear C L M F q z
 generalize t.setCell _ _=w3 at *
 have sR:=K.rf w3
 have q:=eE.cell
 go_wp2_with fail
 clear q
 go_loopw [3,5,13] (fun o _ i W=>∃j:Nat,j<=es.length/\i=.int .i64 j/\aX w3.heap.size w3.heap.size 51 cO (es.take j) o W/\K w3 W) (fun _ _ i _=>es.length-(intOf i).toNat)
 case atStart=>exact⟨0,af,rfl,FX,sR⟩
 case round => exact Lq
theorem OX x v w(h:dm x v w)(S:eJ x) :
 Calls prog 232 #[v] w λe w'=>∃v',e=.returned v'/\wy w.heap.size x v' w'/\K w w':=by
 have N:=ae func232
 have V:=ae ntmps232
 have zR:=ae results232
 obtain⟨vf,ve,rfl,X,he⟩:=h
 obtain⟨A,c,G,H⟩:=X
 obtain rfl:=G
 obtain⟨D,d,G,he,Q⟩:=he
 obtain rfl:=G
 obtain⟨T,R,J⟩:=S
 obtain⟨k,b,l,s,cl,u,f,es⟩:=x
 simp only at H he Q T R J⊢
 have B:=(ai.new w 126 (aE ⟨k,b,l,s,cl,u,f,es⟩ (.slice A f.length c) (.slice D es.length d))).alloc (.cells eQ 126)
 have E:=ai.new (w.alloc (.cells (aE ⟨k,b,l,s,cl,u,f,es⟩ (.slice A f.length c) (.slice D es.length d)) 126)) 126 eQ
 have I:=K.lW w (.cells (aE ⟨k,b,l,s,cl,u,f,es⟩ (.slice A f.length c) (.slice D es.length d)) 126) (.cells eQ 126)
 have hz:(w.alloc (.cells (aE ⟨k,b,l,s,cl,u,f,es⟩ (.slice A f.length c) (.slice D es.length d)) 126)).heap.size=w.heap.size+1:=aj
 rw[hz]at E
 clear hz
 have GU:=ae J
 clear J
 go_enter N.aa,V.aa
 go_upto_region 1 with (fail)
 generalize World.alloc (World.alloc w _) _=w1 at *
 have O:=(H.below I (aD _)).more I.size
 have Y:=E.lt
 clear H
 have q:=B.cell
 have z:=B.frozen
 go_wp2_with (at_builtin;refine iW rfl _ _ 53 rfl w1.heap.size 73 _ 5 56 TF _ 0 [] rfl (kU _ _ _ _) _ A f.length c (f.flatMap fR) rfl O (IA f) ?p1 (aD _) ?_)
 case p1=>omega
 intro U t F _ _ aN
 have C:=B.ay aN
 have L:=E.ay aN
 have M:=I.tr aN
 obtain⟨A1,c1,rfl,-⟩:=(show fT t w1.heap.size U f from F).slice
 clear q z B E
 have q:=C.cell
 have z:=C.frozen
 have Z:=aN.size
 clear aN
 go_upto_region 3 with (fail)
 have eE:ai (t.setCell ⟨w.heap.size,6,none⟩ (.slice A1 f.length c1)) w.heap.size 126 #[.int .i64 k,.int .i64 b,.int .u64 l,.int .u64 s,.int .i64 cl,.int .u64 u,.slice A1 f.length c1,.slice D es.length d]:=C.aQ 6 (.slice A1 f.length c1)
 have dN:=L.far (p:=⟨w.heap.size,6,none⟩) aj (.slice A1 f.length c1)
 have k3:K w (t.setCell ⟨w.heap.size,6,none⟩ (.slice A1 f.length c1)):=K.set M (aD _) 6 _
 have eN:fT (t.setCell ⟨w.heap.size,6,none⟩ (.slice A1 f.length c1)) w1.heap.size (.slice A1 f.length c1) f:=fT.up F (aI.set af 6 _)
 have rX:w.heap.size+1<(t.setCell ⟨w.heap.size,6,none⟩ (.slice A1 f.length c1)).heap.size:=Lp
 clear C L M F q z
 generalize t.setCell _ _=w3 at *
 have sR:=K.rf w3
 have q:=eE.cell
 go_wp2_with fail
 clear q
 go_loopw [3,5,13] (fun o _ i W=>∃j:Nat,j<=es.length/\i=.int .i64 j/\aX w3.heap.size w3.heap.size 51 cO (es.take j) o W/\K w3 W) (fun _ _ i _=>es.length-(intOf i).toNat)
 case atStart=>exact⟨0,af,rfl,FX,sR⟩
 case round => exact Lq
theorem apS x v w(h:dm x v w)(S:eJ x) :
 Calls prog 307 #[v] w λe w'=>∃v',e=.returned v'/\wy w.heap.size x v' w'/\K w w':=by
 have N:=ae func307
 have V:=ae ntmps307
 have zR:=ae results307
 obtain⟨vf,ve,rfl,X,he⟩:=h
 obtain⟨A,c,G,H⟩:=X
 obtain rfl:=G
 obtain⟨D,d,G,he,Q⟩:=he
 obtain rfl:=G
 obtain⟨T,R,J⟩:=S
 obtain⟨k,b,l,s,cl,u,f,es⟩:=x
 simp only at H he Q T R J⊢
 have B:=(ai.new w 126 (aE ⟨k,b,l,s,cl,u,f,es⟩ (.slice A f.length c) (.slice D es.length d))).alloc (.cells eQ 126)
 have E:=ai.new (w.alloc (.cells (aE ⟨k,b,l,s,cl,u,f,es⟩ (.slice A f.length c) (.slice D es.length d)) 126)) 126 eQ
 have I:=K.lW w (.cells (aE ⟨k,b,l,s,cl,u,f,es⟩ (.slice A f.length c) (.slice D es.length d)) 126) (.cells eQ 126)
 have hz:(w.alloc (.cells (aE ⟨k,b,l,s,cl,u,f,es⟩ (.slice A f.length c) (.slice D es.length d)) 126)).heap.size=w.heap.size+1:=aj
 rw[hz]at E
 clear hz
 have GU:=ae J
 clear J
 go_enter N.aa,V.aa
 go_upto_region 1 with (fail)
 generalize World.alloc (World.alloc w _) _=w1 at *
 have O:=(H.below I (aD _)).more I.size
 have Y:=E.lt
 clear H
 have q:=B.cell
 have z:=B.frozen
 go_wp2_with (at_builtin;refine iW rfl _ _ 53 rfl w1.heap.size 73 _ 5 56 TF _ 0 [] rfl (kU _ _ _ _) _ A f.length c (f.flatMap fR) rfl O (IA f) ?p1 (aD _) ?_)
 case p1=>omega
 intro U t F _ _ aN
 have C:=B.ay aN
 have L:=E.ay aN
 have M:=I.tr aN
 obtain⟨A1,c1,rfl,-⟩:=(show fT t w1.heap.size U f from F).slice
 clear q z B E
 have q:=C.cell
 have z:=C.frozen
 have Z:=aN.size
 clear aN
 go_upto_region 3 with (fail)
 have eE:ai (t.setCell ⟨w.heap.size,6,none⟩ (.slice A1 f.length c1)) w.heap.size 126 #[.int .i64 k,.int .i64 b,.int .u64 l,.int .u64 s,.int .i64 cl,.int .u64 u,.slice A1 f.length c1,.slice D es.length d]:=C.aQ 6 (.slice A1 f.length c1)
 have dN:=L.far (p:=⟨w.heap.size,6,none⟩) aj (.slice A1 f.length c1)
 have k3:K w (t.setCell ⟨w.heap.size,6,none⟩ (.slice A1 f.length c1)):=K.set M (aD _) 6 _
 have eN:fT (t.setCell ⟨w.heap.size,6,none⟩ (.slice A1 f.length c1)) w1.heap.size (.slice A1 f.length c1) f:=fT.up F (aI.set af 6 _)
 have rX:w.heap.size+1<(t.setCell ⟨w.heap.size,6,none⟩ (.slice A1 f.length c1)).heap.size:=Lp
 clear C L M F q z
 generalize t.setCell _ _=w3 at *
 have sR:=K.rf w3
 have q:=eE.cell
 go_wp2_with fail
 clear q
 go_loopw [3,5,13] (fun o _ i W=>∃j:Nat,j<=es.length/\i=.int .i64 j/\aX w3.heap.size w3.heap.size 51 cO (es.take j) o W/\K w3 W) (fun _ _ i _=>es.length-(intOf i).toNat)
 case atStart=>exact⟨0,af,rfl,FX,sR⟩
 case round => exact Lq
theorem Uj l v w(h:aq aV l v w)(E:∀x∈l,eJ x)(hn:l.length<=1000000) :
 Calls prog 115 #[v] w λe w'=>∃v',e=.returned v'/\aB (λk=>k<w.heap.size) w.heap.size 126 aV l v' w'/\K w w':=by
 obtain⟨A,c,rfl,L,X⟩:=h
 have N:=ae E
 have C:=K.rf w
 have hO:=aB.nil (λk=>k<w.heap.size) w.heap.size 126 aV w
 clear E
 go_enter func115,ntmps115
 go_wp2_with fail
 go_loopw [3,5,8] (fun o _ i W=>∃j:Nat,j<=l.length/\i=.int .i64 j/\aB (fun k=>k<w.heap.size) w.heap.size 126 aV (l.take j) o W/\K w W) (fun _ _ i _=>l.length-(intOf i).toNat)
 case atStart=>exact⟨0,af,rfl,fP,C⟩
 case round =>
  clear hO C;obtain⟨j,Z,rfl,hO,kr⟩:=hrel;by_cases hlt:j<l.length
  ·have aP:(j:Int)<l.length:=af;obtain⟨I,D,cs,rfl,Q,B,H,d⟩:=eB L j hlt ax;have HT:Hid (l.take (j+1)=l.take j++[l[j]]):=ae I0;have T:=N.aa _ (bZ hlt);generalize l[j]=x at *;obtain⟨vf,t,rfl,y,u⟩:=B w (K.rf w);have M:Hid (∀W,K w W->dm x (.agg (aE x vf t)) W):=ae λW k=>⟨_,_,rfl,eO _ _ _ _ y k,bo u k⟩
   have q:∀i,i<8->wr.cell? ⟨I,D+j*8+i,none⟩=(aE x vf t)[i]?:=λi O=>(d wr kr i O).trans Array.getElem?_toList
   have J:wr.cell? ⟨I,D+j*8,none⟩=some (.int .i64 x.kind):=H wr kr;have G:=ai.new wr 126 (aE x vf t);have F:=G.aU;obtain⟨Y,V,rfl⟩:=cA y;obtain⟨U,ce,rfl⟩:=av u;clear d H y u B Q;go_upto_region 5 with (fail);generalize wr.alloc _=R at *;replace hO:=hO.st F;have iV:=kr.tr F;clear q J;have q:=G.cell;go_wp2_with fail
   apply bS (ab7 x _ R (M.aa _ iV) T);exact ahh
  ·exact Lw
theorem Uk l v w(h:aq aV l v w)(E:∀x∈l,eJ x)(hn:l.length<=1000000) :
 Calls prog 230 #[v] w λe w'=>∃v',e=.returned v'/\aB (λk=>k<w.heap.size) w.heap.size 126 aV l v' w'/\K w w':=by
 obtain⟨A,c,rfl,L,X⟩:=h
 have N:=ae E
 have C:=K.rf w
 have hO:=aB.nil (λk=>k<w.heap.size) w.heap.size 126 aV w
 clear E
 go_enter func230,ntmps230
 go_wp2_with fail
 go_loopw [3,5,8] (fun o _ i W=>∃j:Nat,j<=l.length/\i=.int .i64 j/\aB (fun k=>k<w.heap.size) w.heap.size 126 aV (l.take j) o W/\K w W) (fun _ _ i _=>l.length-(intOf i).toNat)
 case atStart=>exact⟨0,af,rfl,fP,C⟩
 case round =>
  clear hO C;obtain⟨j,Z,rfl,hO,kr⟩:=hrel;by_cases hlt:j<l.length
  ·have aP:(j:Int)<l.length:=af;obtain⟨I,D,cs,rfl,Q,B,H,d⟩:=eB L j hlt ax;have HT:Hid (l.take (j+1)=l.take j++[l[j]]):=ae I0;have T:=N.aa _ (bZ hlt);generalize l[j]=x at *;obtain⟨vf,t,rfl,y,u⟩:=B w (K.rf w);have M:Hid (∀W,K w W->dm x (.agg (aE x vf t)) W):=ae λW k=>⟨_,_,rfl,eO _ _ _ _ y k,bo u k⟩
   have q:∀i,i<8->wr.cell? ⟨I,D+j*8+i,none⟩=(aE x vf t)[i]?:=λi O=>(d wr kr i O).trans Array.getElem?_toList
   have J:wr.cell? ⟨I,D+j*8,none⟩=some (.int .i64 x.kind):=H wr kr;have G:=ai.new wr 126 (aE x vf t);have F:=G.aU;obtain⟨Y,V,rfl⟩:=cA y;obtain⟨U,ce,rfl⟩:=av u;clear d H y u B Q;go_upto_region 5 with (fail);generalize wr.alloc _=R at *;replace hO:=hO.st F;have iV:=kr.tr F;clear q J;have q:=G.cell;go_wp2_with fail
   apply bS (OX x _ R (M.aa _ iV) T);exact ahh
  ·exact Lw
