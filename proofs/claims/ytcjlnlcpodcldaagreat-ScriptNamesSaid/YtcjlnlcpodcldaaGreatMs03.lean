/-
  The walks of broker's Commit, Abort, Publish (layer 20). Conditions: none.
-/
import Derived.Test.YtcjlnlcpodcldaaGreatMs02
import Derived.Test.YtcjlnlcpodcldaaGreatMsz
set_option maxRecDepth 100000
set_option maxHeartbeats 16000000
set_option linter.all false
namespace Go.Proofs.YtcjlnlcpodcldaaGreat
open Go Go.RowKit _root_.Go.Proofs.Tryz
open List renaming length→Q
open _root_.Array renaming size→Z
open Go.World renaming heap→D,alloc→aU,setCell→aV
open Go.Value renaming ownBlock→aW
open Go.Value renaming int→G,slice→F,pointer→aj,bool→ar,tuple→au,agg→av,string→aw
open Go.IntKind renaming i64→J,u64→E
open Option renaming none→U,some→I
open Go.Ending renaming returned→ak
open Go.Obj renaming cells→aq
open Go.World renaming setCell→ax,alloc→ay
open Bool renaming false→az,true→aA
open And renaming intro→aB
open List renaming lookup→aC,getElem?_eq_getElem→aE,getElem?_eq_some_iff→aF
open _root_.Array renaming getElem?_toList→aD,getElem?_eq_some_iff→aG
open Nat renaming le_succ→aH
open Or renaming inl→aI,inr→aJ
open Go renaming Calls→aK,execOp→aL,bodyPost_ret→aM,World→aP,Value→aQ
open Go.RowKit renaming Below→aN,intOf→aO
theorem bJ.call{P j t k o r x xs V w}
 f args (hg:o.guard=U) (z:(aL (bP x.2 j V) (bR o.op o.type)).run P w=.ok (.enter f args) w) (h:aK P f args w λe y=>∃v,e=ak v/\bJ P j t (k+1) r xs (cK V k v) y):bJ P j t k (o :: r) (x :: xs) V w:=by
 unfold bJ
 rw[hg,bT (show dC V U=aA from rfl),z]
 exact h
theorem lG.zi{l}(h:lG l):Q l<=1000000:=by have:=h.len;omega
theorem asI{M p B w}(h:cS M p B w)(y:cX B) a :
 aK prog 115 #[aj (I ⟨p.g,0,U⟩),di a] w λe w'=>e=ak (G J (fV B (jN B.bH a)).2)/\eX M p (fV B (jN B.bH a)).1 w w':=by
 have C1:=aY λW (k:K w W)=>avJ B.bH a p.vt W (h.df.at k).bH y.tx.small y.tx.zi
 have:=aY h
 have hz:=λk hk=>h.low k hk
 have S:=aY λk hk=>h.low k (h.sub k hk)
 have T:=aY λW (k:K w W) v X=>WO (h.st k) (l:=(jN B.bH a).1) (v:=v) (jN B.bH a).2 X
 have q:=h.q
 have hb:=bn.new w 42 #[G J a.1,G E a.2.1,G E a.2.2]
 have k1:=hb.cC
 have A:=bD h.df.now.bH
 obtain⟨g,gl,gd,gr,gt,vd,vr,vp,vh,vl,vq,va,vt,vf,vw,kr⟩:=p
 simp only at q C1 A
 obtain⟨At,ct,rfl⟩:=A
 generalize hR:jN B.bH a=R at *
 obtain⟨z,rc⟩:=R
 have N:=aY hz
 go_in
 go_upto_region 1 with fail
 generalize w.alloc _=j at *
 generalize Z (D w)=ga at hb⊢
 have qa:=hb.cells
 have q1:=λW (k:K j W)=>q W (k1.tr k)
 go_upto_region 3 with fail
 have qs:=aB q1 qa
 refine eQ 9 ?_
 iterate 6 refine bA.i ?_
 refine bA.op (λv W=>∃v',v=au #[v',G J rc]/\cE (Z (D j)) (Z (D j)) 178 eC z v' W) (λ_ _ _ ⟨v',e,h⟩ k=>⟨v',e,h.st k⟩) (λV W kW hp=>?_) ?_
 ·(try simp only[dE,bU,bZ,dA,dB,bM]at hp)
  exact ake
 refine bA.op (λv W=>cE (Z (D j)) (Z (D j)) 178 eC z v W) (λ_ _ _ h k=>h.st k) (λV W kW hp=>?_) ?_
 ·exact Kr
 refine bA.is (G J rc) (λV W kW hp=>?_) ?_
 ·exact Ks
 intro V W kW hA
 simp only[bU,bZ,dx,bM,Nat.reduceAdd]at hA
 obtain⟨e0,Y,e2,e3,e4,e5,⟨v',e6,ia⟩,hO,e8,-⟩:=hA
 have t:=k1.tr kW
 have C:=(cE.tR hO).fx (λ_ h=>h) |>.less λk hk=>cQ (N.aX k hk) k1.size
 refine bJ.call _ _ rfl akf ?_
 refine (T.aX W t (V 7) C).mono ?_
 rintro e w5⟨rfl,O⟩
 refine⟨_,rfl,?_⟩
 have L:=aY (O.zW t S.aX)
 apply bJ.pure
 rfl
 simp[bP,aC,cK,aL,bR,go_sem]
 rfl
 refine bJ.e ?_
 go_wp2
 go_ret
 exact⟨SE,L.aX⟩
theorem atm{M p B w}(h:cS M p B w)(y:cX B) a :
 aK prog 116 #[aj (I ⟨p.g,0,U⟩),di a] w λe w'=>e=ak (G J (fV B (jO B.bH a)).2)/\eX M p (fV B (jO B.bH a)).1 w w':=by
 have C1:=aY λW (k:K w W)=>axC B.bH a p.vt W (h.df.at k).bH y.tx.small y.tx.zi
 have:=aY h
 have hz:=λk hk=>h.low k hk
 have S:=aY λk hk=>h.low k (h.sub k hk)
 have T:=aY λW (k:K w W) v X=>WO (h.st k) (l:=(jO B.bH a).1) (v:=v) (jO B.bH a).2 X
 have q:=h.q
 have hb:=bn.new w 42 #[G J a.1,G E a.2.1,G E a.2.2]
 have k1:=hb.cC
 have A:=bD h.df.now.bH
 obtain⟨g,gl,gd,gr,gt,vd,vr,vp,vh,vl,vq,va,vt,vf,vw,kr⟩:=p
 simp only at q C1 A
 obtain⟨At,ct,rfl⟩:=A
 generalize hR:jO B.bH a=R at *
 obtain⟨z,rc⟩:=R
 have N:=aY hz
 go_in
 go_upto_region 1 with fail
 generalize w.alloc _=j at *
 generalize Z (D w)=ga at hb⊢
 have qa:=hb.cells
 have q1:=λW (k:K j W)=>q W (k1.tr k)
 go_upto_region 3 with fail
 have qs:=aB q1 qa
 refine eQ 9 ?_
 iterate 6 refine bA.i ?_
 refine bA.op (λv W=>∃v',v=au #[v',G J rc]/\cE (Z (D j)) (Z (D j)) 178 eC z v' W) (λ_ _ _ ⟨v',e,h⟩ k=>⟨v',e,h.st k⟩) (λV W kW hp=>?_) ?_
 ·(try simp only[dE,bU,bZ,dA,dB,bM]at hp)
  exact ake
 refine bA.op (λv W=>cE (Z (D j)) (Z (D j)) 178 eC z v W) (λ_ _ _ h k=>h.st k) (λV W kW hp=>?_) ?_
 ·exact Kr
 refine bA.is (G J rc) (λV W kW hp=>?_) ?_
 ·exact Ks
 intro V W kW hA
 simp only[bU,bZ,dx,bM,Nat.reduceAdd]at hA
 obtain⟨e0,Y,e2,e3,e4,e5,⟨v',e6,ia⟩,hO,e8,-⟩:=hA
 have t:=k1.tr kW
 have C:=(cE.tR hO).fx (λ_ h=>h) |>.less λk hk=>cQ (N.aX k hk) k1.size
 refine bJ.call _ _ rfl akf ?_
 refine (T.aX W t (V 7) C).mono ?_
 rintro e w5⟨rfl,O⟩
 refine⟨_,rfl,?_⟩
 have L:=aY (O.zW t S.aX)
 apply bJ.pure
 rfl
 simp[bP,aC,cK,aL,bR,go_sem]
 rfl
 refine bJ.e ?_
 go_wp2
 go_ret
 exact⟨SE,L.aX⟩
def Ah(lo:Nat){α:Type}(S:fE α)(l:List α)(v:aQ)(w:aP):Prop:=∀W,bV lo U w W->bw S l v W
theorem Ah.st{lo α S}{l:List α}{v w w'}(h:Ah lo S l v w)(k:K w w'):Ah lo S l v w':=λW u=>h W ((bV.bS k _ _).tr u)
theorem Ah.low{lo j α S}{l:List α}{v w}(h:Ah lo S l v w)(k:j<=lo):Ah j S l v w:=λW u=>h W (u.more k λ_ _ h=>h)
theorem Ah.fx{lo α S}{l:List α}{v w M}(h:Ah lo S l v w)(j:∀k,M k->k<lo):Fx M (λW=>bw S l v W) w:=Fx.fresh h j
theorem asd{M p B w}(h:cS M p B w)(t:cX B) a j u(C:iT j u w)(mE:Q j<=1000000)(X:∀x∈j,ny x) :
 aK prog 114 #[aj (I ⟨p.g,0,U⟩),di a,u] w λe w'=>e=ak (G J (fV B (jq B.bH a j)).2)/\eX M p (fV B (jq B.bH a j)).1 w w':=by
 have z:=aY λW (k:K w W)=>aur B.bH a j p.vt u W (h.df.at k).bH (nL _ _ _ _ C k) t.tx.small (λs hs=>(t.tx.each s hs).2.1) mE X t.tx.zi
 have:=aY h
 have hz:=λk hk=>h.low k hk
 have HX:=aY λk hk=>h.low k (h.sub k hk)
 have C2:=aY λW (k:K w W) v hv=>WO (h.st k) (l:=(jq B.bH a j).1) (v:=v) (jq B.bH a j).2 hv
 have q:=h.q
 have hb:=bn.new w 42 #[G J a.1,G E a.2.1,G E a.2.2]
 have k1:=hb.cC
 have O:=bD h.df.now.bH
 obtain⟨g,gl,gd,gr,gt,vd,vr,vp,vh,vl,vq,va,vt,vf,vw,kr⟩:=p
 simp only at q z O
 obtain⟨At,ct,rfl⟩:=O
 obtain⟨Au,cu,rfl⟩:=tc C
 generalize hR:jq B.bH a j=R at *
 obtain⟨L,rc⟩:=R
 have HZ:=aY hz
 go_in
 go_upto_region 1 with fail
 generalize w.alloc _=y at *
 generalize Z (D w)=ga at hb⊢
 have S:=hb.cells
 have N:=λW (k:K y W)=>q W (k1.tr k)
 go_upto_region 3 with fail
 have qs:=aB N S
 refine eQ 10 ?_
 iterate 7 refine bA.i ?_
 refine bA.op (λv W=>∃v',v=au #[v',G J rc]/\Ah (Z (D y)) eC L v' W) (λ_ _ _ ⟨v',e,h⟩ k=>⟨v',e,h.st k⟩) (λV W kW hp=>?_) ?_
 ·(try simp only[dE,bU,bZ,dA,dB,bM]at hp)
  simp[dC,bP,aC,hp,eH,aL,bR,N,S,go_sem];refine (z.aX W (k1.tr kW)).mono ?_;rintro e w4⟨v4,rfl,hO,k4⟩;exact⟨_,rfl,⟨_,rfl,Ah.low hO kW.size⟩,k4⟩
 refine bA.op (λv W=>Ah (Z (D y)) eC L v W) (λ_ _ _ h k=>h.st k) (λV W kW hp=>?_) ?_
 ·exact Kr
 refine bA.is (G J rc) (λV W kW hp=>?_) ?_
 ·exact Ks
 intro V W kW hA
 simp only[bU,bZ,dx,bM,Nat.reduceAdd]at hA
 obtain⟨e0,e1,e2,e3,e4,e5,e6,⟨v',e7,ia⟩,hO,e9,-⟩:=hA
 have A:=k1.tr kW
 have T:=Ah.fx hO λk hk=>cQ (HZ.aX k hk) k1.size
 refine bJ.call _ _ rfl akg ?_
 refine (C2.aX W A (V 8) T).mono ?_
 rintro e w5⟨rfl,hN⟩
 refine⟨_,rfl,?_⟩
 have Y:=aY (hN.zW A HX.aX)
 apply bJ.pure
 rfl
 simp[bP,aC,cK,aL,bR,go_sem]
 rfl
 refine bJ.e ?_
 go_wp2
 go_ret
 exact⟨SE,Y.aX⟩
theorem cX.new{B}(j:cX B):dX (qR B):=by
 have t:=j.me;have:=j.calls;have y:=j.dk.inv.life;have:=ud j.tr;simp only[iJ,fB,decide_eq_true_eq]at t;refine⟨?_,y,?_⟩
 ·grind [dX,qR,cV]
 ·grind [dX,qR]
theorem asJ{M p B w}(h:cS M p B w)(j:cX B) c(hc:cV c) gb L(S:bn w gb 114 #[aj (I ⟨p.g,0,U⟩)])(T:bn w L 3 #[G J c]) :
 aK prog 155 #[di (qR B),aj (I ⟨gb,0,U⟩),aj (I ⟨L,0,U⟩)] w λe w'=>∃v',e=ak (au #[v',G J (AY B.bH (qR B) c).2])/\cE (Z (D w)) (Z (D w)) 178 eC (AY B.bH (qR B) c).1 v' w'/\K w w':=by
 have C1:=aY λW (k:K w W)=>auo B.bH (qR B) c p.vt W (h.df.at k).bH j.new hc j.tx.small j.tx.zi
 have q:=h.q
 have z:=S.cells
 have X:=T.cells
 have Y:=bD h.df.now.bH
 generalize qR B=a at *
 have hb:=bn.new w 42 #[G J a.1,G E a.2.1,G E a.2.2]
 have k1:=hb.cC
 obtain⟨g,gl,gd,gr,gt,vd,vr,vp,vh,vl,vq,va,vt,vf,vw,kr⟩:=p
 simp only at q C1 Y z
 obtain⟨At,ct,rfl⟩:=Y
 generalize AY B.bH a c=R at *
 obtain⟨N,rc⟩:=R
 clear h j S T
 go_in
 go_upto_region 1 with fail
 generalize w.alloc _=A at *
 obtain⟨lo,hlo⟩:∃lo,Hid (lo=Z (D w)):=⟨_,aY rfl⟩
 generalize Z (D w)=ga at hb⊢
 have H:=hb.cells
 have C:=λW (k:K A W)=>q W (k1.tr k)
 have t:=λW (k:K A W)=>z W (k1.tr k)
 have y:=λW (k:K A W)=>X W (k1.tr k)
 clear q z X hb
 have qs:=aB C (aB H (aB t y))
 refine eQ 9 ?_
 iterate 6 refine bA.i ?_
 refine bA.op (λv W=>∃v',v=au #[v',G J rc]/\cE lo lo 178 eC N v' W) (λ_ _ _ ⟨v',e,h⟩ k=>⟨v',e,h.st k⟩) (λV W kW hp=>?_) ?_
 ·(try simp only[dE,bU,bZ,dA,dB,bM]at hp)
  simp[dC,bP,aC,hp,eH,aL,bR,C,H,t,y,go_sem];exact Zd
 refine bA.op (λv W=>cE lo lo 178 eC N v W) (λ_ _ _ h k=>h.st k) (λV W kW hp=>?_) ?_
 ·exact Kr
 refine bA.is (G J rc) (λV W kW hp=>?_) ?_
 ·exact Ks
 clear qs
 intro V W kW hA
 simp only[bU,bZ,dx,bM,Nat.reduceAdd]at hA
 obtain⟨e0,e1,e2,e3,e4,e5,⟨v',e6,ia⟩,hO,O,-⟩:=hA
 have kF:=k1.tr kW
 generalize GM:V 7=v7 at *
 have mc:=bD hO.bw
 obtain⟨A7,c7,rfl⟩:=mc
 apply bJ.pure
 rfl
 simp[bP,aC,cK,GM,aL,bR,go_sem]
 rfl
 apply bJ.pure
 rfl
 simp[bP,aC,cK,O,aL,bR,go_sem]
 rfl
 refine bJ.e ?_
 have HO:=aY hO
 clear hO ia C1 C H t y GM e0 e1 e2 e3 e4 e5 e6 O
 go_wp2
 go_ret2
 exact⟨_,rfl,Ze,kF⟩
theorem aus{M p B w}(h:cS M p B w)(y:cX B) c(hc:cV c)(n:Nat)(hn:n<18446744073709551616) f C(N:fQ f C w)(TK:∀t∈f,jF t)(dM:Q f<=1000000) gb gc gn gf(hgb:bn w gb 114 #[aj (I ⟨p.g,0,U⟩)])(uJ:bn w gc 3 #[G J c])(GN:bn w gn 40 #[G E n])(GP:bn w gf 37 #[C]) :
 aK prog 97 #[di (qR B),aj (I ⟨gb,0,U⟩),aj (I ⟨gc,0,U⟩),aj (I ⟨gn,0,U⟩),aj (I ⟨gf,0,U⟩)] w λe w'=>∃v',e=ak (au #[v',G J (rV B.bH (ki B 2 c n f)).2])/\cE (Z (D w)) (Z (D w)) 178 eC (rV B.bH (ki B 2 c n f)).1 v' w'/\K w w':=by
 have T:=y.new
 have hfit:dQ (ki B 2 c n f):=⟨by simp[ki,cV],T.1,hc,T.2.1,T.2.2,hn,TK,by simp[ki]⟩
 have C1:=aY λW (k:K w W)=>agw B.bH (ki B 2 c n f) p.vt (av (bQ (ki B 2 c n f) C (F U 0 0))) W (h.df.at k).bH ⟨_,_,rfl,fJ _ _ _ _ N k,gN _ _⟩ hfit (by simp[fX,ki];exact dM) y.tx.small y.tx.zi
 have q:=h.q
 have S:=hgb.cells
 have qc:=uJ.cells
 have qn:=GN.cells
 have qf:=GP.cells
 obtain⟨Af,cf,rfl⟩:=dK N
 have hs1:=bD h.df.now.bH
 simp only[ki]at C1
 have H:Hid (qR B=(B.me,B.st.life,B.calls+1)):=aY rfl
 obtain⟨n1,A⟩:∃n,n=B.calls+1:=⟨_,rfl⟩
 rw[<- A]at C1 H
 rw[H.aX]
 generalize z:rV B.bH (ki B 2 c n f)=R at *
 simp only[ki]at z
 rw[<- A]at z
 rw[z]at C1
 clear A z H
 have hb:=bn.new w 42 #[G J B.me,G E B.st.life,G E n1]
 have k1:=hb.cC
 obtain⟨g,gl,gd,gr,gt,vd,vr,vp,vh,vl,vq,va,vt,vf,vw,kr⟩:=p
 simp only at q C1 hs1 S
 obtain⟨At,ct,rfl⟩:=hs1
 obtain⟨rl,rc⟩:=R
 clear h y hgb uJ GN hfit GP N TK
 go_in
 go_upto_region 1 with fail
 generalize w.alloc _=j at *
 obtain⟨lo,hlo⟩:∃lo,Hid (lo=Z (D w)):=⟨_,aY rfl⟩
 generalize Z (D w)=ga at hb⊢
 have qa:=hb.cells
 have Y:=λW (k:K j W)=>q W (k1.tr k)
 have L:=λW (k:K j W)=>S W (k1.tr k)
 have O:=λW (k:K j W)=>qc W (k1.tr k)
 have X:=λW (k:K j W)=>qn W (k1.tr k)
 have qf1:=λW (k:K j W)=>qf W (k1.tr k)
 clear qf
 clear q S qc qn hb
 have qs:=aB Y (aB qa (aB L (aB O (aB X qf1))))
 refine eQ 12 ?_
 iterate 9 refine bA.i ?_
 refine bA.op (λv W=>∃v',v=au #[v',G J rc]/\cE lo lo 178 eC rl v' W) (λ_ _ _ ⟨v',e,h⟩ k=>⟨v',e,h.st k⟩) (λV W kW hp=>?_) ?_
 ·(try simp only[dE,bU,bZ,dA,dB,bM]at hp)
  simp[dC,bP,aC,hp,eH,aL,bR,Y,qa,L,O,X,qf1,go_sem];exact Zd
 refine bA.op (λv W=>cE lo lo 178 eC rl v W) (λ_ _ _ h k=>h.st k) (λV W kW hp=>?_) ?_
 ·exact Kr
 refine bA.is (G J rc) (λV W kW hp=>?_) ?_
 ·exact Ks
 clear qs
 intro V W kW hA
 simp only[bU,bZ,dx,bM,Nat.reduceAdd]at hA
 obtain⟨e0,e1,e2,e3,e4,e5,e6,e7,e8,⟨v',ev,ia⟩,hO,ec,-⟩:=hA
 have kF:=k1.tr kW
 generalize GM:V 10=v7 at *
 have mc:=bD hO.bw
 obtain⟨A7,c7,rfl⟩:=mc
 apply bJ.pure
 rfl
 simp[bP,aC,cK,GM,aL,bR,go_sem]
 rfl
 apply bJ.pure
 rfl
 simp[bP,aC,cK,ec,aL,bR,go_sem]
 rfl
 refine bJ.e ?_
 have HO:=aY hO
 clear hO ia C1 Y qa L O X qf1 GM e0 e1 e2 e3 e4 e5 e6 e7 e8 ev ec
 go_wp2
 go_ret2
 exact⟨_,rfl,Ze,kF⟩
theorem asK{M p B w}(h:cS M p B w)(j:cX B) c(hc:cV c)(n:Nat)(hn:n<18446744073709551616) gb X gn(hgb:bn w gb 114 #[aj (I ⟨p.g,0,U⟩)])(uJ:bn w X 3 #[G J c])(GN:bn w gn 40 #[G E n]) :
 aK prog 157 #[di (qR B),aj (I ⟨gb,0,U⟩),aj (I ⟨X,0,U⟩),aj (I ⟨gn,0,U⟩)] w λe w'=>∃v',e=ak (au #[v',G J (rV B.bH (ki B 3 c n [])).2])/\cE (Z (D w)) (Z (D w)) 178 eC (rV B.bH (ki B 3 c n [])).1 v' w'/\K w w':=by
 have N:=j.new
 have hfit:dQ (ki B 3 c n []):=⟨by simp[ki,cV],N.1,hc,N.2.1,N.2.2,hn,by simp[ki],by simp[ki]⟩
 have C1:=aY λW (k:K w W)=>agw B.bH (ki B 3 c n []) p.vt (av (bQ (ki B 3 c n []) (F U 0 0) (F U 0 0))) W (h.df.at k).bH ⟨_,_,rfl,⟨U,0,rfl,Reads.nil _ _ _ _⟩,gN _ _⟩ hfit (by simp[fX,ki]) j.tx.small j.tx.zi
 have q:=h.q
 have L:=hgb.cells
 have qc:=uJ.cells
 have Y:=GN.cells
 skip
 have hs1:=bD h.df.now.bH
 simp only[ki]at C1
 have A:Hid (qR B=(B.me,B.st.life,B.calls+1)):=aY rfl
 obtain⟨n1,z⟩:∃n,n=B.calls+1:=⟨_,rfl⟩
 rw[<- z]at C1 A
 rw[A.aX]
 generalize t:rV B.bH (ki B 3 c n [])=R at *
 simp only[ki]at t
 rw[<- z]at t
 rw[t]at C1
 clear z t A
 have hb:=bn.new w 42 #[G J B.me,G E B.st.life,G E n1]
 have k1:=hb.cC
 obtain⟨g,gl,gd,gr,gt,vd,vr,vp,vh,vl,vq,va,vt,vf,vw,kr⟩:=p
 simp only at q C1 hs1 L
 obtain⟨At,ct,rfl⟩:=hs1
 obtain⟨rl,rc⟩:=R
 clear h j hgb uJ GN hfit
 go_in
 go_upto_region 1 with fail
 generalize w.alloc _=y at *
 obtain⟨lo,hlo⟩:∃lo,Hid (lo=Z (D w)):=⟨_,aY rfl⟩
 generalize Z (D w)=ga at hb⊢
 have T:=hb.cells
 have S:=λW (k:K y W)=>q W (k1.tr k)
 have C:=λW (k:K y W)=>L W (k1.tr k)
 have H:=λW (k:K y W)=>qc W (k1.tr k)
 have O:=λW (k:K y W)=>Y W (k1.tr k)
 skip
 clear q L qc Y hb
 have qs:=aB S (aB T (aB C (aB H O)))
 refine eQ 11 ?_
 iterate 8 refine bA.i ?_
 refine bA.op (λv W=>∃v',v=au #[v',G J rc]/\cE lo lo 178 eC rl v' W) (λ_ _ _ ⟨v',e,h⟩ k=>⟨v',e,h.st k⟩) (λV W kW hp=>?_) ?_
 ·(try simp only[dE,bU,bZ,dA,dB,bM]at hp)
  simp[dC,bP,aC,hp,eH,aL,bR,S,T,C,H,O,go_sem];exact Zd
 refine bA.op (λv W=>cE lo lo 178 eC rl v W) (λ_ _ _ h k=>h.st k) (λV W kW hp=>?_) ?_
 ·exact Kr
 refine bA.is (G J rc) (λV W kW hp=>?_) ?_
 ·exact Ks
 clear qs
 intro V W kW hA
 simp only[bU,bZ,dx,bM,Nat.reduceAdd]at hA
 obtain⟨e0,e1,e2,e3,e4,e5,e6,e7,⟨v',ev,ia⟩,hO,ec,-⟩:=hA
 have kF:=k1.tr kW
 generalize GM:V 9=v7 at *
 have mc:=bD hO.bw
 obtain⟨A7,c7,rfl⟩:=mc
 apply bJ.pure
 rfl
 simp[bP,aC,cK,GM,aL,bR,go_sem]
 rfl
 apply bJ.pure
 rfl
 simp[bP,aC,cK,ec,aL,bR,go_sem]
 rfl
 refine bJ.e ?_
 have HO:=aY hO
 clear hO ia C1 S T C H O GM e0 e1 e2 e3 e4 e5 e6 e7 ev ec
 go_wp2
 go_ret2
 exact⟨_,rfl,Ze,kF⟩
section
variable {M:Nat->Prop} {p:pH} {B B':cJ} {w w1 w2 w3:aP} {g9:Nat}
theorem cS.D3(h:cS M p B w)(k:K w w1)(z:Z (D w)<=g9)(j:g9<Z (D w1)):cS (λk=>M k∨k=g9) p B w1 :=
 h.far (X:=λ_=>False) (bf.bS k _) (λ_ h=>h.elim) (λ_ h=>h.elim) (λk hk t=>t.resolve_right aZ) (λk hk=>aI (h.sub k hk)) λb hb=>hb.elim (λy=>cQ (h.low b y) k.size) λe=>e▸j
theorem eX.scratch(h:eX (λk=>M k∨k=g9) p B' w1 w2)(u:bf (λk=>k=g9) w2 w3)(k:K w w1)(H:Z (D w)<=g9)(B:g9<Z (D w1))(N:∀k,cO p k->k<Z (D w))(L:∀k,M k->k<Z (D w)):eX M p B' w w3:=by
 obtain⟨p',t,y,hg,hn⟩:=h;have z:¬cO p' g9:=λj=>(hn g9 j).elim (λh=>bG) λh=>aZ
 have:=y.size;have A:=u.size;refine⟨p',t.far u (λk hk=>aI (aJ hk)) (λk hk j=>z (hk▸j)) (λk _ j=>j.imp aI id) (λk hk=>aJ hk) (λk hk=>hk.elim (λh=>bG) λh=>cQ (t.low k (aJ h)) A),((bf.bS k _).tr y).iA u λk hk e=>aZ,hg,λk hk=>(hn k hk).imp id λh=>aZ⟩
theorem eX.keeps{t cs}(h:eX M p B' w1 w2)(hb:bn w1 g9 t cs)(hg:¬cO p g9):bn w2 g9 t cs:=by obtain⟨p',y,j,-⟩:=h;exact hb.cA j hg
end
theorem atn{M p B w}(h:cS M p B w)(O:cX B) c(hc:cV c) :
 aK prog 101 #[aj (I ⟨p.g,0,U⟩),G J c] w λe w'=>e=ak (au #[di (y5 B c).2.1,G J (y5 B c).2.2])/\eX M p (y5 B c).1 w w':=by
 have HX:=aY λk hk=>h.low k (h.sub k hk)
 have V:=aY h.low
 have L:=((bn.new w 114 #[aj (I ⟨p.g,0,U⟩)]).alloc (aq #[G J c] 3)).alloc (aq #[G J 0,G E 0,G E 0] 42)
 have H:=(bn.new (aU w (aq #[aj (I ⟨p.g,0,U⟩)] 114)) 3 #[G J c]).alloc (aq #[G J 0,G E 0,G E 0] 42)
 have A:=bn.new ((aU w (aq #[aj (I ⟨p.g,0,U⟩)] 114)).alloc (aq #[G J c] 3)) 42 #[G J 0,G E 0,G E 0]
 have k1:=K.TS w (aq #[aj (I ⟨p.g,0,U⟩)] 114) (aq #[G J c] 3) (aq #[G J 0,G E 0,G E 0] 42)
 simp only[World.size_alloc]at H A
 generalize dF:Z (D w)+1+1=t at A
 have h9:Z (D w)<=t:=aZ
 have N:=h.D3 k1 h9 A.lt
 have S:=aY (WQ N O c 155 #[aj (I ⟨Z (D w),0,U⟩),aj (I ⟨Z (D w)+1,0,U⟩)] (AY B.bH (qR B) c) (λargs W=>cY) (λW kW=>asJ (N.st kW) O c hc _ _ (L.bF kW) (H.bF kW)))
 have LR:Hid (y5 B c=jR B c (AY B.bH (qR B) c)):=aY rfl
 generalize y5 B c=R at *
 generalize jR B c (AY B.bH (qR B) c)=T at *
 obtain⟨B',j,ec⟩:=T
 have HS:=aY λy w3 (z:eX (λk=>M k∨k=t) p B' _ y) (u:bf (λk=>k=t) y w3)=>z.scratch u k1 h9 A.lt HX.aX V.aX
 have HR:=aY λy (z:eX (λk=>M k∨k=t) p B' _ y)=>z.keeps A λhx=>SF
 have:=L.cell
 have:=H.cell
 go_in
 go_upto_region 1 with fail
 generalize ay (ay (ay w _) _) _=w1 at *
 go_wp2_with fail
 apply bN S.aX
 intro y z
 have C:=HR.aX _ z
 have Fb:=aY (HS.aX _ · z)
 have:=C.cell
 have:=C.frozen
 go_wp2
 have Y:bn (ax (ax (ax y _ _) _ _) _ _) t 42 #[G J j.1,G E j.2.1,G E j.2.2]:=((C.cz 0 (G J j.1)).cz 1 (G E j.2.1)).cz 2 (G E j.2.2)
 have HF:=aY (Fb.aX _ (((bf.dc (X:=λk=>k=t) rfl 0 (G J j.1)).tr (bf.dc (X:=λk=>k=t) rfl 1 (G E j.2.1))).tr (bf.dc (X:=λk=>k=t) rfl 2 (G E j.2.2))))
 generalize ax (ax (ax y _ _) _ _) _ _=W9 at *
 have e9:=Y.cell
 try rw[jt]
 refine aM (v:=au #[di j,G J ec]) (by simp[results,results101,go_sem,e9]) rfl ?_
 exact⟨by rw[LR.aX],Zf⟩
theorem avL{M p B w}(h:cS M p B w)(Y:cX B) c(hc:cV c)(n:Nat)(hn:n<18446744073709551616) f T(hf:fQ f T w)(TK:∀t∈f,jF t)(dM:Q f<=1000000) :
 aK prog 54 #[aj (I ⟨p.g,0,U⟩),G J c,G E n,T] w λe w'=>e=ak (au #[di (Bt B c n f).2.1,G J (Bt B c n f).2.2])/\eX M p (Bt B c n f).1 w w':=by
 obtain⟨z,A,e0⟩:=dK hf
 subst e0
 have HX:=aY λk hk=>h.low k (h.sub k hk)
 have HM:=aY h.low
 have S:=(((((bn.new w 114 #[aj (I ⟨p.g,0,U⟩)]).alloc (aq #[G J c] 3)).alloc (aq #[G E n] 40)).alloc (aq #[(F z (Q f) A)] 37)).alloc (aq #[G J 0,G E 0,G E 0] 42))
 have O:=((((bn.new (aU w (aq #[aj (I ⟨p.g,0,U⟩)] 114)) 3 #[G J c]).alloc (aq #[G E n] 40)).alloc (aq #[(F z (Q f) A)] 37)).alloc (aq #[G J 0,G E 0,G E 0] 42))
 have dy:=(((bn.new ((aU w (aq #[aj (I ⟨p.g,0,U⟩)] 114)).alloc (aq #[G J c] 3)) 40 #[G E n]).alloc (aq #[(F z (Q f) A)] 37)).alloc (aq #[G J 0,G E 0,G E 0] 42))
 have hb4:=((bn.new (((aU w (aq #[aj (I ⟨p.g,0,U⟩)] 114)).alloc (aq #[G J c] 3)).alloc (aq #[G E n] 40)) 37 #[(F z (Q f) A)]).alloc (aq #[G J 0,G E 0,G E 0] 42))
 have L:=bn.new ((((aU w (aq #[aj (I ⟨p.g,0,U⟩)] 114)).alloc (aq #[G J c] 3)).alloc (aq #[G E n] 40)).alloc (aq #[(F z (Q f) A)] 37)) 42 #[G J 0,G E 0,G E 0]
 have k1:=K.aDJ w (aq #[aj (I ⟨p.g,0,U⟩)] 114) (aq #[G J c] 3) (aq #[G E n] 40) (aq #[(F z (Q f) A)] 37) (aq #[G J 0,G E 0,G E 0] 42)
 simp only[World.size_alloc]at O dy hb4 L
 generalize dF:Z (D w)+1+1+1+1=y at L
 have h9:Z (D w)<=y:=aZ
 have V:=h.D3 k1 h9 L.lt
 have C1:=aY (WQ V Y c 97 #[aj (I ⟨Z (D w),0,U⟩),aj (I ⟨Z (D w)+1,0,U⟩),aj (I ⟨Z (D w)+1+1,0,U⟩),aj (I ⟨Z (D w)+1+1+1,0,U⟩)] (rV B.bH (ki B 2 c n f)) (λargs W=>cY) (λW kW=>aus (V.st kW) Y c hc n hn f (F z (Q f) A) (fJ _ _ _ _ hf (k1.tr kW)) TK dM _ _ _ _ (S.bF kW) (O.bF kW) (dy.bF kW) (hb4.bF kW)))
 have LR:Hid (Bt B c n f=jR B c (rV B.bH (ki B 2 c n f))):=aY rfl
 generalize Bt B c n f=R at *
 generalize jR B c (rV B.bH (ki B 2 c n f))=RR at *
 obtain⟨B',j,ec⟩:=RR
 have HS:=aY λC w3 (H:eX (λk=>M k∨k=y) p B' _ C) (u:bf (λk=>k=y) C w3)=>H.scratch u k1 h9 L.lt HX.aX HM.aX
 have HR:=aY λC (H:eX (λk=>M k∨k=y) p B' _ C)=>H.keeps L λhx=>SF
 have:=S.cell
 have:=O.cell
 go_in
 go_upto_region 1 with fail
 generalize ay (ay (ay (ay (ay w _) _) _) _) _=w1 at *
 go_wp2_with fail
 apply bN C1.aX
 intro C H
 have N:=HR.aX _ H
 have Fb:=aY (HS.aX _ · H)
 have:=N.cell
 have:=N.frozen
 go_wp2
 have tO:bn (ax (ax (ax C _ _) _ _) _ _) y 42 #[G J j.1,G E j.2.1,G E j.2.2]:=((N.cz 0 (G J j.1)).cz 1 (G E j.2.1)).cz 2 (G E j.2.2)
 have HF:=aY (Fb.aX _ (((bf.dc (X:=λk=>k=y) rfl 0 (G J j.1)).tr (bf.dc (X:=λk=>k=y) rfl 1 (G E j.2.1))).tr (bf.dc (X:=λk=>k=y) rfl 2 (G E j.2.2))))
 generalize ax (ax (ax C _ _) _ _) _ _=W9 at *
 have e9:=tO.cell
 try rw[jt]
 refine aM (v:=au #[di j,G J ec]) (by simp[results,results54,go_sem,e9]) rfl ?_
 exact⟨by rw[LR.aX],Zf⟩
theorem ato{M p B w}(h:cS M p B w)(O:cX B) c(hc:cV c)(n:Nat)(hn:n<18446744073709551616) :
 aK prog 102 #[aj (I ⟨p.g,0,U⟩),G J c,G E n] w λe w'=>e=ak (au #[di (Bb B c n).2.1,G J (Bb B c n).2.2])/\eX M p (Bb B c n).1 w w':=by
 have HX:=aY λk hk=>h.low k (h.sub k hk)
 have Y:=aY h.low
 have L:=((((bn.new w 114 #[aj (I ⟨p.g,0,U⟩)]).alloc (aq #[G J c] 3)).alloc (aq #[G E n] 40)).alloc (aq #[G J 0,G E 0,G E 0] 42))
 have H:=(((bn.new (aU w (aq #[aj (I ⟨p.g,0,U⟩)] 114)) 3 #[G J c]).alloc (aq #[G E n] 40)).alloc (aq #[G J 0,G E 0,G E 0] 42))
 have S:=((bn.new ((aU w (aq #[aj (I ⟨p.g,0,U⟩)] 114)).alloc (aq #[G J c] 3)) 40 #[G E n]).alloc (aq #[G J 0,G E 0,G E 0] 42))
 have A:=bn.new (((aU w (aq #[aj (I ⟨p.g,0,U⟩)] 114)).alloc (aq #[G J c] 3)).alloc (aq #[G E n] 40)) 42 #[G J 0,G E 0,G E 0]
 have k1:=K.anM w (aq #[aj (I ⟨p.g,0,U⟩)] 114) (aq #[G J c] 3) (aq #[G E n] 40) (aq #[G J 0,G E 0,G E 0] 42)
 simp only[World.size_alloc]at H S A
 generalize dF:Z (D w)+1+1+1=t at A
 have h9:Z (D w)<=t:=aZ
 have N:=h.D3 k1 h9 A.lt
 have T:=aY (WQ N O c 157 #[aj (I ⟨Z (D w),0,U⟩),aj (I ⟨Z (D w)+1,0,U⟩),aj (I ⟨Z (D w)+1+1,0,U⟩)] (rV B.bH (ki B 3 c n [])) (λargs W=>cY) (λW kW=>asK (N.st kW) O c hc n hn _ _ _ (L.bF kW) (H.bF kW) (S.bF kW)))
 have LR:Hid (Bb B c n=jR B c (rV B.bH (ki B 3 c n []))):=aY rfl
 generalize Bb B c n=R at *
 generalize jR B c (rV B.bH (ki B 3 c n []))=V at *
 obtain⟨B',j,ec⟩:=V
 have HS:=aY λy w3 (z:eX (λk=>M k∨k=t) p B' _ y) (u:bf (λk=>k=t) y w3)=>z.scratch u k1 h9 A.lt HX.aX Y.aX
 have HR:=aY λy (z:eX (λk=>M k∨k=t) p B' _ y)=>z.keeps A λhx=>SF
 have:=L.cell
 have:=H.cell
 go_in
 go_upto_region 1 with fail
 generalize ay (ay (ay (ay w _) _) _) _=w1 at *
 go_wp2_with fail
 apply bN T.aX
 intro y z
 have C:=HR.aX _ z
 have Fb:=aY (HS.aX _ · z)
 have:=C.cell
 have:=C.frozen
 go_wp2
 have tO:bn (ax (ax (ax y _ _) _ _) _ _) t 42 #[G J j.1,G E j.2.1,G E j.2.2]:=((C.cz 0 (G J j.1)).cz 1 (G E j.2.1)).cz 2 (G E j.2.2)
 have HF:=aY (Fb.aX _ (((bf.dc (X:=λk=>k=t) rfl 0 (G J j.1)).tr (bf.dc (X:=λk=>k=t) rfl 1 (G E j.2.1))).tr (bf.dc (X:=λk=>k=t) rfl 2 (G E j.2.2))))
 generalize ax (ax (ax y _ _) _ _) _ _=W9 at *
 have e9:=tO.cell
 try rw[jt]
 refine aM (v:=au #[di j,G J ec]) (by simp[results,results102,go_sem,e9]) rfl ?_
 exact⟨by rw[LR.aX],Zf⟩
theorem aeQ x v w(h:fc x v w)(X:fX x) :
 aK prog 128 #[v] w λe w'=>∃v',e=ak v'/\yd (Z (D w)) x v' w'/\K w w':=by
 have zF:=aY func128
 have T:=aY ntmps128
 have zR:=aY results128
 obtain⟨vf,ve,rfl,Y,he⟩:=h
 obtain⟨A,c,L,O⟩:=Y
 obtain rfl:=L
 obtain⟨B,d,L,he,hd⟩:=he
 obtain rfl:=L
 obtain⟨hs1,gH,R⟩:=X
 obtain⟨k,b,l,s,cl,u,f,es⟩:=x
 simp only at O he hd hs1 gH R⊢
 have H:=(bn.new w 128 (bQ ⟨k,b,l,s,cl,u,f,es⟩ (F A (Q f) c) (F B (Q es) d))).alloc (aq gE 128)
 have C:=bn.new (aU w (aq (bQ ⟨k,b,l,s,cl,u,f,es⟩ (F A (Q f) c) (F B (Q es) d)) 128)) 128 gE
 have k1:=K.lK w (aq (bQ ⟨k,b,l,s,cl,u,f,es⟩ (F A (Q f) c) (F B (Q es) d)) 128) (aq gE 128)
 have hz:Z (D (aU w (aq (bQ ⟨k,b,l,s,cl,u,f,es⟩ (F A (Q f) c) (F B (Q es) d)) 128)))=Z (D w)+1:=bq
 rw[hz]at C
 have I9:=aY R
 go_enter zF.aX,T.aX
 go_upto_region 1 with fail
 generalize ay (ay w _) _=w1 at *
 have S:=(O.below k1 (bL _)).more k1.size
 have hr1:=C.lt
 have q:=H.cell
 have z:=H.frozen
 go_wp2_with (at_builtin;refine j9 rfl _ _ 37 rfl (Z (D w1)) 85 _ 5 56 TF _ 0 [] rfl (mr _ _ _ _) _ A (Q f) c (f.flatMap gT) rfl S (J4 f) ?p1 (bL _) ?_)
 case p1=>omega
 intro V t N _ _ cD
 have M:=H.bF cD
 have cZ:=C.bF cD
 have k2:=k1.tr cD
 obtain⟨A1,c1,rfl,-⟩:=(show iF t (Z (D w1)) V f from N).slice
 have q:=M.cell
 have z:=M.frozen
 have IH:=cD.size
 go_upto_region 3 with fail
 have iH:bn (aV t ⟨Z (D w),6,U⟩ (F A1 (Q f) c1)) (Z (D w)) 128 #[G J k,G J b,G E l,G E s,G J cl,G E u,F A1 (Q f) c1,F B (Q es) d]:=M.cz 6 (F A1 (Q f) c1)
 have fP:=cZ.far (p:=⟨Z (D w),6,U⟩) bq (F A1 (Q f) c1)
 have k3:K w (aV t ⟨Z (D w),6,U⟩ (F A1 (Q f) c1)):=K.set k2 (bL _) 6 _
 have iB:iF (aV t ⟨Z (D w),6,U⟩ (F A1 (Q f) c1)) (Z (D w1)) (F A1 (Q f) c1) f:=iF.up N (bV.set aZ 6 _)
 have vV:Z (D w)+1<Z (D (aV t ⟨Z (D w),6,U⟩ (F A1 (Q f) c1))):=NA
 generalize t.setCell _ _=w3 at *
 have yD:=K.rf w3
 have q:=iH.cell
 go_wp2_with fail
 go_loopw [3,5,13] (fun o _ i W=>∃j:Nat,j<=Q es/\i=G J j/\cE (Z (D w3)) (Z (D w3)) 35 dS (es.take j) o W/\K w3 W) (fun _ _ i _=>Q es-(aO i).toNat)
 case atStart=>exact⟨0,aZ,rfl,H8,yD⟩
 case round => exact NC
theorem QX x v w(h:fc x v w)(X:fX x) :
 aK prog 269 #[v] w λe w'=>∃v',e=ak v'/\yd (Z (D w)) x v' w'/\K w w':=by
 have zF:=aY func269
 have T:=aY ntmps269
 have zR:=aY results269
 obtain⟨vf,ve,rfl,Y,he⟩:=h
 obtain⟨A,c,L,O⟩:=Y
 obtain rfl:=L
 obtain⟨B,d,L,he,hd⟩:=he
 obtain rfl:=L
 obtain⟨hs1,gH,R⟩:=X
 obtain⟨k,b,l,s,cl,u,f,es⟩:=x
 simp only at O he hd hs1 gH R⊢
 have H:=(bn.new w 128 (bQ ⟨k,b,l,s,cl,u,f,es⟩ (F A (Q f) c) (F B (Q es) d))).alloc (aq gE 128)
 have C:=bn.new (aU w (aq (bQ ⟨k,b,l,s,cl,u,f,es⟩ (F A (Q f) c) (F B (Q es) d)) 128)) 128 gE
 have k1:=K.lK w (aq (bQ ⟨k,b,l,s,cl,u,f,es⟩ (F A (Q f) c) (F B (Q es) d)) 128) (aq gE 128)
 have hz:Z (D (aU w (aq (bQ ⟨k,b,l,s,cl,u,f,es⟩ (F A (Q f) c) (F B (Q es) d)) 128)))=Z (D w)+1:=bq
 rw[hz]at C
 have I9:=aY R
 go_enter zF.aX,T.aX
 go_upto_region 1 with fail
 generalize ay (ay w _) _=w1 at *
 have S:=(O.below k1 (bL _)).more k1.size
 have hr1:=C.lt
 have q:=H.cell
 have z:=H.frozen
 go_wp2_with (at_builtin;refine j9 rfl _ _ 37 rfl (Z (D w1)) 85 _ 5 56 TF _ 0 [] rfl (mr _ _ _ _) _ A (Q f) c (f.flatMap gT) rfl S (J4 f) ?p1 (bL _) ?_)
 case p1=>omega
 intro V t N _ _ cD
 have M:=H.bF cD
 have cZ:=C.bF cD
 have k2:=k1.tr cD
 obtain⟨A1,c1,rfl,-⟩:=(show iF t (Z (D w1)) V f from N).slice
 have q:=M.cell
 have z:=M.frozen
 have IH:=cD.size
 go_upto_region 3 with fail
 have iH:bn (aV t ⟨Z (D w),6,U⟩ (F A1 (Q f) c1)) (Z (D w)) 128 #[G J k,G J b,G E l,G E s,G J cl,G E u,F A1 (Q f) c1,F B (Q es) d]:=M.cz 6 (F A1 (Q f) c1)
 have fP:=cZ.far (p:=⟨Z (D w),6,U⟩) bq (F A1 (Q f) c1)
 have k3:K w (aV t ⟨Z (D w),6,U⟩ (F A1 (Q f) c1)):=K.set k2 (bL _) 6 _
 have iB:iF (aV t ⟨Z (D w),6,U⟩ (F A1 (Q f) c1)) (Z (D w1)) (F A1 (Q f) c1) f:=iF.up N (bV.set aZ 6 _)
 have vV:Z (D w)+1<Z (D (aV t ⟨Z (D w),6,U⟩ (F A1 (Q f) c1))):=NA
 generalize t.setCell _ _=w3 at *
 have yD:=K.rf w3
 have q:=iH.cell
 go_wp2_with fail
 go_loopw [3,5,13] (fun o _ i W=>∃j:Nat,j<=Q es/\i=G J j/\cE (Z (D w3)) (Z (D w3)) 35 dS (es.take j) o W/\K w3 W) (fun _ _ i _=>Q es-(aO i).toNat)
 case atStart=>exact⟨0,aZ,rfl,H8,yD⟩
 case round => exact NC
theorem atp x v w(h:fc x v w)(X:fX x) :
 aK prog 321 #[v] w λe w'=>∃v',e=ak v'/\yd (Z (D w)) x v' w'/\K w w':=by
 have zF:=aY func321
 have T:=aY ntmps321
 have zR:=aY results321
 obtain⟨vf,ve,rfl,Y,he⟩:=h
 obtain⟨A,c,L,O⟩:=Y
 obtain rfl:=L
 obtain⟨B,d,L,he,hd⟩:=he
 obtain rfl:=L
 obtain⟨hs1,gH,R⟩:=X
 obtain⟨k,b,l,s,cl,u,f,es⟩:=x
 simp only at O he hd hs1 gH R⊢
 have H:=(bn.new w 128 (bQ ⟨k,b,l,s,cl,u,f,es⟩ (F A (Q f) c) (F B (Q es) d))).alloc (aq gE 128)
 have C:=bn.new (aU w (aq (bQ ⟨k,b,l,s,cl,u,f,es⟩ (F A (Q f) c) (F B (Q es) d)) 128)) 128 gE
 have k1:=K.lK w (aq (bQ ⟨k,b,l,s,cl,u,f,es⟩ (F A (Q f) c) (F B (Q es) d)) 128) (aq gE 128)
 have hz:Z (D (aU w (aq (bQ ⟨k,b,l,s,cl,u,f,es⟩ (F A (Q f) c) (F B (Q es) d)) 128)))=Z (D w)+1:=bq
 rw[hz]at C
 have I9:=aY R
 go_enter zF.aX,T.aX
 go_upto_region 1 with fail
 generalize ay (ay w _) _=w1 at *
 have S:=(O.below k1 (bL _)).more k1.size
 have hr1:=C.lt
 have q:=H.cell
 have z:=H.frozen
 go_wp2_with (at_builtin;refine j9 rfl _ _ 37 rfl (Z (D w1)) 85 _ 5 56 TF _ 0 [] rfl (mr _ _ _ _) _ A (Q f) c (f.flatMap gT) rfl S (J4 f) ?p1 (bL _) ?_)
 case p1=>omega
 intro V t N _ _ cD
 have M:=H.bF cD
 have cZ:=C.bF cD
 have k2:=k1.tr cD
 obtain⟨A1,c1,rfl,-⟩:=(show iF t (Z (D w1)) V f from N).slice
 have q:=M.cell
 have z:=M.frozen
 have IH:=cD.size
 go_upto_region 3 with fail
 have iH:bn (aV t ⟨Z (D w),6,U⟩ (F A1 (Q f) c1)) (Z (D w)) 128 #[G J k,G J b,G E l,G E s,G J cl,G E u,F A1 (Q f) c1,F B (Q es) d]:=M.cz 6 (F A1 (Q f) c1)
 have fP:=cZ.far (p:=⟨Z (D w),6,U⟩) bq (F A1 (Q f) c1)
 have k3:K w (aV t ⟨Z (D w),6,U⟩ (F A1 (Q f) c1)):=K.set k2 (bL _) 6 _
 have iB:iF (aV t ⟨Z (D w),6,U⟩ (F A1 (Q f) c1)) (Z (D w1)) (F A1 (Q f) c1) f:=iF.up N (bV.set aZ 6 _)
 have vV:Z (D w)+1<Z (D (aV t ⟨Z (D w),6,U⟩ (F A1 (Q f) c1))):=NA
 generalize t.setCell _ _=w3 at *
 have yD:=K.rf w3
 have q:=iH.cell
 go_wp2_with fail
 go_loopw [3,5,13] (fun o _ i W=>∃j:Nat,j<=Q es/\i=G J j/\cE (Z (D w3)) (Z (D w3)) 35 dS (es.take j) o W/\K w3 W) (fun _ _ i _=>Q es-(aO i).toNat)
 case atStart=>exact⟨0,aZ,rfl,H8,yD⟩
 case round => exact NC
theorem Wy l v w(h:bw cF l v w)(H:∀x∈l,fX x)(hn:Q l<=1000000) :
 aK prog 86 #[v] w λe w'=>∃v',e=ak v'/\bK (λk=>k<Z (D w)) (Z (D w)) 128 cF l v' w'/\K w w':=by
 obtain⟨A,c,rfl,T,hc⟩:=h
 have X:=aY H
 have M:=K.rf w
 have hO:=bK.nil (λk=>k<Z (D w)) (Z (D w)) 128 cF w
 go_in
 go_wp2_with fail
 go_loopw [3,5,8] (fun o _ i W=>∃j:Nat,j<=Q l/\i=G J j/\bK (fun k=>k<Z (D w)) (Z (D w)) 128 cF (l.take j) o W/\K w W) (fun _ _ i _=>Q l-(aO i).toNat)
 case atStart=>exact⟨0,aZ,rfl,ic,M⟩
 case round =>
  obtain⟨j,hj,rfl,hO,kr⟩:=hrel;by_cases hlt:j<Q l
  ·have cd:(j:Int)<Q l:=aZ;obtain⟨B,t,cs,rfl,hcl,O,Y,d⟩:=eN T j hlt bC;have HT:Hid (l.take (j+1)=l.take j++[l[j]]):=aY NJ;have L:=X.aX _ (dG hlt);generalize l[j]=x at *;obtain⟨vf,ve,rfl,y,z⟩:=O w (K.rf w);have V:Hid (∀W,K w W->fc x (av (bQ x vf ve)) W):=aY λW k=>⟨_,_,rfl,fJ _ _ _ _ y k,cH z k⟩
   have q:∀i,i<8->wr.cell? ⟨B,t+j*8+i,U⟩=(bQ x vf ve)[i]?:=λi R=>(d wr kr i R).trans aD
   have:wr.cell? ⟨B,t+j*8,U⟩=I (G J x.kind):=Y wr kr;have C:=bn.new wr 128 (bQ x vf ve);have k1:=C.cC;obtain⟨Af,cf,rfl⟩:=dK y;obtain⟨Ae,ce,rfl⟩:=bD z;go_upto_region 5 with fail;generalize wr.alloc _=N at *;replace hO:=hO.st k1;have kV:=kr.tr k1;have q:=C.cell;go_wp2_with fail
   apply dD (aeQ x _ N (V.aX _ kV) L);exact akh
  ·exact NK
theorem aez l v w(h:bw cF l v w)(H:∀x∈l,fX x)(hn:Q l<=1000000) :
 aK prog 267 #[v] w λe w'=>∃v',e=ak v'/\bK (λk=>k<Z (D w)) (Z (D w)) 128 cF l v' w'/\K w w':=by
 obtain⟨A,c,rfl,T,hc⟩:=h
 have X:=aY H
 have M:=K.rf w
 have hO:=bK.nil (λk=>k<Z (D w)) (Z (D w)) 128 cF w
 go_in
 go_wp2_with fail
 go_loopw [3,5,8] (fun o _ i W=>∃j:Nat,j<=Q l/\i=G J j/\bK (fun k=>k<Z (D w)) (Z (D w)) 128 cF (l.take j) o W/\K w W) (fun _ _ i _=>Q l-(aO i).toNat)
 case atStart=>exact⟨0,aZ,rfl,ic,M⟩
 case round =>
  obtain⟨j,hj,rfl,hO,kr⟩:=hrel;by_cases hlt:j<Q l
  ·have cd:(j:Int)<Q l:=aZ;obtain⟨B,t,cs,rfl,hcl,O,Y,d⟩:=eN T j hlt bC;have HT:Hid (l.take (j+1)=l.take j++[l[j]]):=aY NJ;have L:=X.aX _ (dG hlt);generalize l[j]=x at *;obtain⟨vf,ve,rfl,y,z⟩:=O w (K.rf w);have V:Hid (∀W,K w W->fc x (av (bQ x vf ve)) W):=aY λW k=>⟨_,_,rfl,fJ _ _ _ _ y k,cH z k⟩
   have q:∀i,i<8->wr.cell? ⟨B,t+j*8+i,U⟩=(bQ x vf ve)[i]?:=λi R=>(d wr kr i R).trans aD
   have:wr.cell? ⟨B,t+j*8,U⟩=I (G J x.kind):=Y wr kr;have C:=bn.new wr 128 (bQ x vf ve);have k1:=C.cC;obtain⟨Af,cf,rfl⟩:=dK y;obtain⟨Ae,ce,rfl⟩:=bD z;go_upto_region 5 with fail;generalize wr.alloc _=N at *;replace hO:=hO.st k1;have kV:=kr.tr k1;have q:=C.cell;go_wp2_with fail
   apply dD (QX x _ N (V.aX _ kV) L);exact akh
  ·exact NK
theorem atq l v w(h:bw dJ l v w)(hn:Q l<=1000000000) :
 aK prog 87 #[v] w λe w'=>∃v',e=ak v'/\bK (λk=>k<Z (D w)) (Z (D w)) 42 dJ l v' w'/\K w w':=by
 obtain⟨A,c,rfl,j,-⟩:=h
 apply dD (aeN A (Q l) c _ w (agp j) (Sn l) hn)
 rintro v' w'⟨t,k⟩
 exact⟨v',rfl,⟨l.map gY,ic,bq,λW _=>RD l W⟩,k⟩
theorem cX.FY{B}(t:cX B):(∀x∈B.st.list,fX x)/\(∀x∈B.st.prom,fX x)/\(∀x∈B.waits,fX x) :=
 ⟨λx j=>xH (t.dk.inv.B6 x j).1,λx j=>xH (t.dk.inv.B7 x j).1,λx j=>xH (t.waits x j).1⟩
theorem atr{M p B w}(h:cS M p B w)(hG:cX B) :
 aK prog 43 #[aj (I ⟨p.g,0,U⟩)] w λe w'=>∃vl vp va,e=ak (av (dY B.st vl vp va))/\nF (λk=>k<Z (D w)) B.st vl vp va w'/\K w w':=by
 have gG:=hG.FY
 have:=hG.dk.len
 have C1:=aY λW (k:K w W)=>Wy B.st.list p.vl W (h.df.at k).list gG.1 aZ
 have C2:=aY λW (k:K w W)=>Wy B.st.prom p.vq W (h.df.at k).prom gG.2.1 aZ
 have C3:=aY λW (k:K w W)=>atq B.st.ab p.va W (h.df.at k).ab aZ
 have q:=h.q
 have hs1:=bD h.df.now.list
 have gH:=bD h.df.now.prom
 have iI:=bD h.df.now.ab
 have R:=bn.new w 61 ot
 have k1:=R.cC
 obtain⟨g,gl,gd,gr,gt,vd,vr,vp,vh,vl,vq,va,vt,vf,vw,kr⟩:=p
 simp only at q C1 C2 C3 hs1 gH iI
 obtain⟨Al,cl,rfl⟩:=hs1
 obtain⟨Aq,cq,rfl⟩:=gH
 obtain⟨Aa,ca,rfl⟩:=iI
 generalize hS:B.st=s at *
 have HS:=aY hS
 go_in
 go_upto_region 1 with fail
 generalize w.alloc _=t at *
 generalize gg:Z (D w)=j at R⊢
 have:=aY gg
 have q1:=λW (k:K t W)=>q W (k1.tr k)
 simp only[Jg,HS.aX]at q1
 go_upto_region 3 with fail
 have qs:=q1
 refine eQ 23 ?_
 iterate 10 refine bA.i ?_
 refine bA.c (λv W=>bK (λk=>k<Z (D t)) (Z (D t)) 128 cF s.list v W) (λ_ _ _ h k=>h.st k) (λW kW=>(C1.aX W (k1.tr kW)).mono λe w4 ⟨L,y,O,N⟩=>⟨L,y,(O.less λk hk=>cQ hk kW.size).low kW.size,N⟩) ?_
 iterate 5 refine bA.i ?_
 refine bA.c (λv W=>bK (λk=>k<Z (D t)) (Z (D t)) 128 cF s.prom v W) (λ_ _ _ h k=>h.st k) (λW kW=>(C2.aX W (k1.tr kW)).mono λe w4 ⟨L,y,O,N⟩=>⟨L,y,(O.less λk hk=>cQ hk kW.size).low kW.size,N⟩) ?_
 iterate 5 refine bA.i ?_
 refine bA.c (λv W=>bK (λk=>k<Z (D t)) (Z (D t)) 42 dJ s.ab v W) (λ_ _ _ h k=>h.st k) (λW kW=>(C3.aX W (k1.tr kW)).mono λe w4 ⟨L,y,O,N⟩=>⟨L,y,(O.less λk hk=>cQ hk kW.size).low kW.size,N⟩) ?_
 intro V W kW
 conv=>lhs;simp only[bU,bZ,dx,bM,Nat.reduceAdd]
 intro hA
 obtain⟨e0,y,e2,e3,e4,e5,e6,e7,e8,e9,ia,tV,zY,Fh,LH,uT,T,e17,e18,e19,e20,e21,S,-⟩:=hA
 obtain⟨A,c1,iV⟩:=ia.slice
 obtain⟨z,c2,Jo⟩:=T.slice
 obtain⟨C,c3,e22⟩:=S.slice
 rw[iV]at ia
 rw[Jo]at T
 rw[e22]at S
 apply bJ.pure
 rfl
 simp[bP,aC,cK,e4,iV,Jo,e22,aL,bR,go_sem]
 try rfl
 have Y:=R.bF kW
 have q9:=Y.cell
 have z9:=Y.frozen
 obtain⟨H,LS⟩:∃H,H=ax (ax (ax (ax W ⟨j,0,U⟩ (G E s.life)) ⟨j,1,U⟩ (F A (Q s.list) c1)) ⟨j,2,U⟩ (F z (Q s.prom) c2)) ⟨j,3,U⟩ (F C (Q s.ab) c3):=⟨_,rfl⟩
 refine bJ.skip H rfl (by rw[LS];simp[bP,aC,cK,aL,bR,q9,z9,go_sem]) ?_
 refine bJ.nil ?_
 simp only[iu,Act.put,ue,tC,tB,Nat.reduceAdd,cK]
 have tO:bn H j 61 (dY s (F A (Q s.list) c1) (F z (Q s.prom) c2) (F C (Q s.ab) c3)):=by rw[LS];exact (((Y.cz 0 (G E s.life)).cz 1 (F A (Q s.list) c1)).cz 2 (F z (Q s.prom) c2)).cz 3 (F C (Q s.ab) c3)
 have u9:bf (λk=>k=j) W H:=by rw[LS];exact (((bf.dc (X:=λk=>k=j) rfl 0 (G E s.life)).tr (bf.dc (X:=λk=>k=j) rfl 1 (F A (Q s.list) c1))).tr (bf.dc (X:=λk=>k=j) rfl 2 (F z (Q s.prom) c2))).tr (bf.dc (X:=λk=>k=j) rfl 3 (F C (Q s.ab) c3))
 have:=R.lt
 have hlt:∀k,k<Z (D w)->k<Z (D t):=λk hk=>aZ
 have HF:Hid (nF (λk=>k<Z (D w)) s (F A (Q s.list) c1) (F z (Q s.prom) c2) (F C (Q s.ab) c3) H):=aY λW' u =>
  have uu:bf (λk=>k<Z (D t)) W W':=(u9.more λk hk=>aZ).tr (u.more hlt)
  ⟨ia.fx (λ_ h=>h) W' uu,T.fx (λ_ h=>h) W' uu,S.fx (λ_ h=>h) W' uu⟩
 have hK:=u9.k (k1.tr kW) λk hk=>aZ
 have e9:=tO.cell
 go_wp2
 try rw[jt]
 refine aM (v:=av (dY s (F A (Q s.list) c1) (F z (Q s.prom) c2) (F C (Q s.ab) c3))) (by simp[results,results43,go_sem,e9]) rfl ?_
 exact⟨_,_,_,rfl,HF.aX,hK⟩
theorem ase{M p B w}(h:cS M p B w)(z:cX B) :
 aK prog 193 #[aj (I ⟨p.g,0,U⟩)] w λe w'=>∃v',e=ak v'/\bK (λk=>k<Z (D w)) (Z (D w)) 128 cF B.waits v' w'/\K w w':=by
 have H:=z.FY
 have C:=z.BB
 have t:=aY (Wy B.waits p.vw w h.df.now.waits H.2.2 C)
 have q:=h.blk.cell
 have j:=bD h.df.now.waits
 obtain⟨g,gl,gd,gr,gt,vd,vr,vp,vh,vl,vq,va,vt,vf,vw,kr⟩:=p
 simp only at q t j
 obtain⟨O,cl,rfl⟩:=j
 go_in
 go_wp2_with fail
 apply dD t.aX
 rintro R S⟨y,A⟩
 have L:=aY y
 obtain⟨N,c2,rfl⟩:=y.slice
 go_wp2
 go_ret
 exact⟨_,rfl,L.aX,A⟩
def OA(lo:Nat)(x:bW)(v:aQ)(W:aP):Prop:=∃vf ve,v=av (bQ x vf ve)/\Fx (λk=>k<lo) (λW=>cF.rel x (bQ x vf ve).toList W) W
theorem Zg lo x:∀v w w',OA lo x v w->aN (Z (D w)) w w'->OA lo x v w':=by rintro v w w'⟨vf,ve,e,h⟩ k;exact⟨vf,ve,e,h.k k⟩
def txN(lo:Nat)(t:fT)(v:aQ)(W:aP):Prop:=∃vf ve,v=av (jm t vf ve)/\Fx (λk=>k<lo) (λW=>eC.rel t (jm t vf ve).toList W) W
theorem aCE lo x:∀v w w',txN lo x v w->aN (Z (D w)) w w'->txN lo x v w':=by rintro v w w'⟨vf,ve,e,h⟩ k;exact⟨vf,ve,e,h.k k⟩
theorem att{M p B w}(h:cS M p B w)(L:cX B) :
 aK prog 192 #[aj (I ⟨p.g,0,U⟩)] w λe w'=>∃v',e=ak v'/\bK (λk=>k<Z (D w)) (Z (D w)) 178 eC B.bH v' w'/\K w w':=by
 have HS:=aY L.tx.small
 have hn:=L.tx.zi
 have q:=h.blk.cell
 have y:=h.df.now.bH
 obtain⟨g,gl,gd,gr,gt,vd,vr,vp,vh,vl,vq,va,vt,vf,vw,kr⟩:=p
 simp only at q y
 obtain⟨A,c,rfl,y,hc⟩:=y
 generalize B.bH=l at *
 have kk:=K.rf w
 have hO:=bK.nil (λk=>k<Z (D w)) (Z (D w)) 178 eC w
 go_in
 go_upto_block 0 with fail
 go_wp2_with fail
 go_loopw [3,5,13] (fun o _ i W=>∃j:Nat,j<=Q l/\i=G J j/\bK (fun k=>k<Z (D w)) (Z (D w)) 178 eC (l.take j) o W/\K w W) (fun _ _ i _=>Q l-(aO i).toNat)
 case atStart=>exact⟨0,aZ,rfl,ic,kk⟩
 case round =>
  obtain⟨j,hj,rfl,hO,kr⟩:=hrel;by_cases hlt:j<Q l
  ·have cd:(j:Int)<Q l:=aZ;obtain⟨X,O,cs,rfl,hcl,hrl,d0,d⟩:=eN y j hlt bC;have HT:Hid (l.take (j+1)=l.take j++[l[j]]):=aY NJ;have sC:=HS.aX _ (dG hlt);generalize l[j]=x at *;obtain⟨vf,ve,rfl,R,T⟩:=hrl w (K.rf w);have HE:Hid (∀W,K w W->fc x.e (av (bQ x.e vf ve)) W):=aY λW k=>⟨_,_,rfl,fJ _ _ _ _ R k,cH T k⟩
   have q:∀i,i<9->wr.cell? ⟨X,O+j*9+i,U⟩=(jm x vf ve)[i]?:=λi hi=>(d wr kr i hi).trans aD
   have:wr.cell? ⟨X,O+j*9,U⟩=I (G J x.e.kind):=d0 wr kr;have H:=bn.new wr 178 (jm x vf ve);have k1:=H.cC;obtain⟨Af,cf,rfl⟩:=dK R;obtain⟨Ae,ce,rfl⟩:=bD T;go_upto_region 7 with fail;generalize wr.alloc _=C at *;generalize Z (D wr)=g5 at H⊢;replace hO:=hO.st k1;have t:=kr.tr k1;have q:=H.cells;have dt:=hO.blk;obtain⟨Ao,co,rfl⟩:=hO.slice;have:Q (l.take j)<=1000000:=cG;generalize l.take j=lj at *;have qs:=q;refine eQ 8 ?_;iterate 3 refine bA.i ?_
   refine bA.op (OA (Z (D C)) x.e) (Zg _ _) (λV W kW hp=>?_) ?_
   ·(try simp only[dE,bU,bZ,dA,dB,bM]at hp)
    simp[dC,bP,aC,hp,eH,aL,bR,q,go_sem];apply dD (aeQ x.e _ W (HE.aX _ (t.tr kW)) sC);exact aki
   iterate 2 refine bA.i ?_
   refine bA.op (txN (Z (D C)) x) (aCE _ _) (λV W kW hp=>?_) ?_
   ·simp only[dE,bU,bZ,dA,dB,bM]at hp;obtain⟨⟨qC,qD,e3,hF⟩,Y,-⟩:=hp;simp[dC,bP,aC,e3,Y,eH,aL,bR,ed,go_sem];exact⟨qC,qD,rfl,hF.mono λW h=>by
     obtain⟨mh,Gy,e,h1,h2⟩:=h;simp at e;obtain⟨rfl,rfl⟩:=e;exact⟨_,_,rfl,h1,h2⟩⟩
   refine bA.row (N:=λk=>k<Z (D C)) (S:=eC) 158 _ 9 104 LF rfl bC _ x rfl rfl (λV W kW hp=>?_) ?_
   ·exact Zh
   intro V W kW hA;simp only[bU,bZ,dx,bM,Nat.reduceAdd]at hA;obtain⟨e0,e1,e2,h3,e4,Y,h6,h7,-⟩:=hA;have zX:=hO.st kW;refine bJ.push _ _ 158 _ 9 104 LF rfl rfl rfl _ lj x (by simp[bP,aC,e0]) zX ?_ aZ (cI t.size kW.size) ?_
   ·simp only[bP,aC];exact h7.less λk hk=>by
     rcases hk with hk|hk
     ·have:=t.size;omega
     ·have:=dt k hk;omega
   intro v9 w9 z dF _ cN;rw[<- HT.aX]at z;have kp:=(t.tr kW).trans cN;obtain⟨A9,c9,rfl⟩:=z.slice;apply bJ.pure;rfl;simp[bP,aC,cK,aL,bR,go_sem];rfl;refine bJ.e ?_;go_wp2;go_roundw
   case rel=>exact⟨j+1,aZ,cU,by simpa only[qN]using z,kp⟩
   case measure=>simp[aO];omega
  ·exact NK
structure uy(w:aP)(T:TypeId)(z:Array aQ)(cs:Nat->aQ)(Φ:Nat->Array aQ->aQ->aP->Prop)(L:Nat->Bool)(V:Nat->aQ)(W:aP):Prop where
 k:K w W
 pre:∀j,j<5->L j=aA->V j=cs j
 al:L 9=aA->∃b,V 9=aj (I ⟨b,0,U⟩)/\Z (D w)<=b/\(L 5=az->bn W b T z)
 got:L 5=aA->∃xs c lo W1,V 5=au #[av xs,c]/\Z (D w)<=lo/\Z (D W1)<=Z (D W)/\Φ lo xs c W/\(L 10=az->K W1 W/\Φ lo xs c W1) /\
  (L 6=aA->V 6=au #[av xs,c])/\(L 7=aA->V 7=av xs)/\(L 8=aA->V 8=c)/\(L 11=aA->V 11=c) /\
  (L 9=aA->∃b,V 9=aj (I ⟨b,0,U⟩)/\Z (D w)<=b/\(b<lo∨Z (D W1)<=b)/\bn W b T (cond (L 10) xs z))
section
variable {P:Program} {aR:Exit->Act->aP->Prop}
theorem wT{L i j}(h:j≠i):upd L i j=L j:=by grind [upd]
theorem AV{V i j v}(h:j≠i):cK V i v j=V j:=by grind [cK]
theorem Zi{V i v}:cK V i v i=v:=by grind [cK]
variable {w:aP} {T:TypeId} {z:Array aQ} {cs:Nat->aQ} {Φ:Nat->Array aQ->aQ->aP->Prop} {L:Nat->Bool} {V:Nat->aQ} {W:aP}
theorem uy.early(h:uy w T z cs Φ L V W) i(y:i<5):uy w T z cs Φ (upd L i) (cK V i (cs i)) W:=by
 refine⟨h.k,λj t hL=>?_,λhL=>?_,λhL=>?_⟩
 ·by_cases e:j=i
  ·grind [upd,cK]
  ·rw[AV e];exact h.pre j t Zj
 ·exact akj
 ·rw[wT aZ]at hL;obtain⟨xs,c,lo,W1,a⟩:=h.got hL;refine⟨xs,c,lo,W1,?_⟩;simp only[wT (show 10≠i by omega),wT (show 6≠i by omega),wT (show 7≠i by omega),wT (show 8≠i by omega),wT (show 11≠i by omega),wT (show 9≠i by omega),AV (show 5≠i by omega),AV (show 6≠i by omega),AV (show 7≠i by omega),AV (show 8≠i by omega),AV (show 11≠i by omega),AV (show 9≠i by omega)];exact a
theorem uy.call(h:uy w T z cs Φ L V W){W' xs c}(k:K W W')(A:Φ (Z (D W)) xs c W')(C:L 5=az)(h6:L 6=az)(h7:L 7=az)(h8:L 8=az)(nD:L 10=az)(yr:L 11=az):uy w T z cs Φ (upd L 5) (cK V 5 (au #[av xs,c])) W':=by
 refine⟨h.k.tr k,λj hj t=>?_,λt=>?_,λ_=>⟨xs,c,Z (D W),W',Zi,h.k.size,bL _,A,λ_=>⟨K.rf _,A⟩,λt=>?_,λt=>?_,λt=>?_,λt=>?_,λt=>?_⟩⟩
 ·exact SG
 ·rw[wT aZ]at t;obtain⟨b,e,B,y⟩:=h.al t;grind [upd,cK]
 ·grind [upd,cK]
 ·grind [upd,cK]
 ·grind [upd,cK]
 ·grind [upd,cK]
 ·rw[wT aZ]at t;obtain⟨b,e,B,y⟩:=h.al t;rw[AV aZ];have hb:=y C;refine⟨b,e,B,aI hb.lt,?_⟩;rw[wT aZ,nD];exact hb.bF k
theorem uy.late(h:uy w T z cs Φ L V W) i v(O:i=6∨i=7∨i=8∨i=11)(A:L 5=aA)(H:∀xs c,V 5=au #[av xs,c]->v=if i=6 then au #[av xs,c]else if i=7 then av xs else c):uy w T z cs Φ (upd L i) (cK V i v) W:=by
 refine⟨h.k,λj hj hL=>?_,λhL=>?_,λhL=>?_⟩
 ·exact SG
 ·exact akj
 ·obtain⟨xs,c,lo,W1,C,B,y,M,N,S,R,Y,GQ,X⟩:=h.got A;have:=H xs c C;refine⟨xs,c,lo,W1,by grind [AV],B,y,M,λt=>N Zj,λt=>?_,λt=>?_,λt=>?_,λt=>?_,λt=>?_⟩
  ·grind [upd,cK]
  ·grind [upd,cK]
  ·grind [upd,cK]
  ·grind [upd,cK]
  ·grind [upd,cK]
theorem uy.made(h:uy w T z cs Φ L V W)(H:∀lo xs c W W',Φ lo xs c W->K W W'->Φ lo xs c W')(nD:L 10=az):uy w T z cs Φ (upd L 9) (cK V 9 (aj (I ⟨Z (D W),0,U⟩))) (aU W (aq z T)):=by
 have k:=K.new W (aq z T);have hb:=bn.new W T z;refine⟨h.k.tr k,λj hj y=>?_,λ_=>⟨_,Zi,h.k.size,λ_=>hb⟩,λy=>?_⟩
 ·exact SG
 ·rw[wT aZ]at y;obtain⟨xs,c,lo,W1,R,C,A,M,B,O,N,X,Y,S⟩:=h.got y;refine⟨xs,c,lo,W1,ic,C,cI A k.size,H _ _ _ _ _ M k,λt=>⟨(B nD).1.tr k,(B nD).2⟩,λt=>?_,λt=>?_,λt=>?_,λt=>?_,λ_=>⟨_,Zi,h.k.size,aJ A,?_⟩⟩
  ·grind [upd,cK]
  ·grind [upd,cK]
  ·grind [upd,cK]
  ·grind [upd,cK]
  ·grind [upd,cK]
theorem uy.kept(h:uy w T z cs Φ L V W)(H:∀lo xs c W W',Φ lo xs c W->K W W'->Φ lo xs c W')(hlow:∀lo xs c W W' b,Φ lo xs c W->b<lo->bf (λk=>k=b) W W'->Φ lo xs c W')(N:L 5=aA)(h9:L 9=aA)(nD:L 10=az){W' b xs c}(R:V 5=au #[av xs,c])(O:V 9=aj (I ⟨b,0,U⟩))(hb:bn W' b T xs)(hg:W.grownBy W' (I b)):uy w T z cs Φ (upd L 10) (cK V 10 undef) W':=by
 have u:bf (λk=>k=b) W W':=bf.gy hg λk e=>bG
 obtain⟨xs',c',lo,W1,y,X,a2,a3,M,Y,a7,a8,GQ,C⟩:=h.got N;rw[R]at y;injection y with y;simp at y;obtain⟨rfl,rfl⟩:=y;obtain⟨b',t,S,A,-⟩:=C h9;rw[O]at t;injection t with t;injection t with t;injection t with t _;subst t;obtain⟨k1,p1⟩:=M nD;have:Φ lo xs c W':=by
  rcases A with A|A
  ·grind
  ·exact H _ _ _ _ _ p1 (u.k k1 λk e=>aZ)
 refine⟨u.k h.k λk e=>aZ,λj hj B=>?_,λB=>?_,λB=>?_⟩
 ·exact SG
 ·grind [upd,cK]
 ·grind [upd,cK]
def EK:List (List Nat):=[[],[0],[1],[2],[],[3,4],[5],[6],[6],[],[7,9],[8]]
def nC(P:Program)(j:Act)(ops:Array Oper)(t:List (List Nat×List (Nat×Nat)))(i:Nat)(V:Nat->aQ)(W:aP):Result Next :=
 match ops[i]?,t[i]? with
 | some o,I x=>(aL (bP x.2 j V) (bR o.op o.type)).run P W
 | _,_=>.halt (.stuck "") W
theorem aeA{id ops C w} T z(cs:Nat->aQ)(Φ:Nat->Array aQ->aQ->aP->Prop) B f args
 n (hn:C.tmps.size=n) (hm:P.follows .mixedOrders=aA) (hok:rL ops n=aA) (hpl:tk ops B=aA) (hsz:ops.size=12) (jJ:B.map (·.1)=EK) (hgd:∀o∈ops.toList,o.guard=U)
 (zh:∀i,i<5->∀V W,K w W->(∀j∈(B.getD i ([],[])).1,V j=cs j)->nC P C ops B i V W=.ok (.value (cs i)) W)
 (hcall:∀V W,K w W->V 3=cs 3->V 4=cs 4->nC P C ops B 5 V W=.ok (.enter f args) W)
 (hC:∀W,K w W->aK P f args W λe W'=>∃xs c,e=ak (au #[av xs,c])/\Φ (Z (D W)) xs c W'/\K W W')
 (h6:∀V W v,V 5=v->nC P C ops B 6 V W=.ok (.value v) W)
 (h7:∀V W xs c,V 6=au #[av xs,c]->nC P C ops B 7 V W=.ok (.value (av xs)) W)
 (h8:∀V W xs c,V 6=au #[av xs,c]->nC P C ops B 8 V W=.ok (.value c) W)
 (h9:∀V W,nC P C ops B 9 V W=.ok (.value (aj (I ⟨Z (D W),0,U⟩))) (aU W (aq z T)))
 (nD:∀V W b lo xs c W0,V 9=aj (I ⟨b,0,U⟩)->V 7=av xs->bn W b T z->Φ lo xs c W0->∃W',nC P C ops B 10 V W=.ok .skip W'/\bn W' b T xs/\W.grownBy W' (I b))
 (yr:∀V W c,V 8=c->nC P C ops B 11 V W=.ok (.value c) W)
 (hK:∀lo xs c W W',Φ lo xs c W->K W W'->Φ lo xs c W') (hlow:∀lo xs c W W' b,Φ lo xs c W->b<lo->bf (λk=>k=b) W W'->Φ lo xs c W')
 (fin:∀V W b xs c lo,K w W->(∀j,j<5->V j=cs j)->V 5=au #[av xs,c]->V 6=au #[av xs,c]->V 7=av xs->V 8=c->V 9=aj (I ⟨b,0,U⟩)->V 11=c->Z (D w)<=b->bn W b T xs->Z (D w)<=lo->Φ lo xs c W->aR .normal (iu V ops.toList 0 C) W) :
 (Code.region id ops aA).wp P aR C w:=by
 have Oq:∀(i:Nat) (o:Oper),ops[i]?=I o->∃x:List Nat×List (Nat×Nat),B[i]?=I x/\∀j∈x.1,j∈ahead o:=by
  intro i o ho
  have h3:=List.all_eq_true.1 hpl (o,i) (List.mem_zipIdx_iff_getElem?.2 bG)
  cases hx:B[i]? with
  | none=>simp only[hx]at h3;cases h3
  | some x =>
   grind
 refine QM (uy w T z cs Φ) n hn hm hok ⟨(K.rf w).drew,λ_ _ hj=>Sd,λhj=>Sd,λhj=>Sd⟩ ?_ ?_
 ·intro i o ho L V W E5 hcl hal A;have hlt:i<12:=bG;obtain⟨x,hx,I3⟩:=Oq i o ho;have hgo:=hgd o bG;have hex:aL (BJ ops C V o) o=aL (bP x.2 C V) (bR o.op o.type):=by
   have h1:=List.all_eq_true.1 hpl (o,i) (List.mem_zipIdx_iff_getElem?.2 bG);simp only[hx,fB]at h1;rw[<- WK];refine execOp_congr o (λcs b e=>bG) λy hy=>?_
   exact aiT
  have Vc:(aL (BJ ops C V o) o).run P W=nC P C ops B i V W:=by rw[hex];unfold nC;rw[ho,hx]
  have hw:wants V o=true:=by unfold wants;rw[hgo]
  rw[bT hw,Vc];have hx1:x.1=EK.getD i []:=by
   grind
  have H:=λj hj=>hal j (I3 j (by rw[hx1];exact hj))
  have hall:∀k o',ops[k]?=I o'->L k=aA->∀j∈EK.getD k [],L j=true:=λk o' ru hk j hj=>by
   obtain⟨y,hy,hya⟩:=Oq k o' ru;have EZ:y.1=EK.getD k []:=by
    grind
   exact hcl.1 k o' ru hk j (hya j (by rw[EZ];exact hj))
  have hb:∀k,k<12->∀j∈EK.getD k [],L j=az->L k=false:=λk hk j hj hjL=>by
   cases s5:L k with
   | false=>rfl
   | true =>
    grind
  have Y:∀k,k=6∨k=7∨k=8∨k=11∨k=10->(∀j∈EK.getD k [],L j=aA)->L 5=true:=λk hk hj=>by
   have N:=λh=>hall 6 _ (show ops[6]?=I ops[6] by simp) h 5 pd
   have X:=λh=>hall 7 _ (show ops[7]?=I ops[7] by simp) h 6 pd
   have S:=λh=>hall 8 _ (show ops[8]?=I ops[8] by simp) h 6 pd
   rcases hk with rfl|rfl|rfl|rfl|rfl
   ·exact hj 5 pd
   ·exact N (hj 6 pd)
   ·exact N (hj 6 pd)
   ·exact N (S (hj 8 pd))
   ·exact N (X (hj 7 pd))
  have abe:∀ {xs xs':Array aQ} {c c':aQ},V 5=au #[av xs,c]->V 5=au #[av xs',c']->xs=xs'/\c=c':=λe e'=>by
   grind
  by_cases hi5:i<5
  ·have hpx:(B.getD i ([],[])).1=EK.getD i []:=by rw[List.getD_eq_getElem?_getD,hx];exact hx1
   rw[zh i hi5 V W A.k λj hj=>by
    rw[hpx]at hj;refine A.pre j ?_ (H j hj);have:i=0∨i=1∨i=2∨i=3∨i=4:=aZ;rcases this with rfl|rfl|rfl|rfl|rfl <;> simp[EK]at hj <;> omega]
   exact A.early i hi5
  have hi:i=5∨i=6∨i=7∨i=8∨i=9∨i=10∨i=11:=aZ;rcases hi with rfl|rfl|rfl|rfl|rfl|rfl|rfl
  ·have l6:=hb 6 aZ 5 pd E5;have l7:=hb 7 aZ 6 pd l6;have l8:=hb 8 aZ 6 pd l6;have l10:=hb 10 aZ 7 pd l7;have l11:=hb 11 aZ 8 pd l8;rw[hcall V W A.k (A.pre 3 aZ (H 3 pd)) (A.pre 4 aZ (H 4 pd))];refine (hC W A.k).mono ?_;rintro e W'⟨xs,c,rfl,Fi,k⟩;exact⟨_,rfl,A.call k Fi E5 l6 l7 l8 l10 l11⟩
  ·have M:=Y 6 bq H;rw[h6 V W _ rfl];exact A.late 6 _ bq M λxs c e=>Ex
  ·have M:=Y 7 bq H;obtain⟨xs,c,lo,W1,O,-,-,-,-,N,-⟩:=A.got M;rw[h7 V W xs c (N (H 6 pd))];exact A.late 7 _ bq M λxs' c' e=>by rw[(abe O e).1];rfl
  ·have M:=Y 8 bq H;obtain⟨xs,c,lo,W1,O,-,-,-,-,N,-⟩:=A.got M;rw[h8 V W xs c (N (H 6 pd))];exact A.late 8 _ bq M λxs' c' e=>by rw[(abe O e).2];rfl
  ·have l10:=hb 10 aZ 9 pd E5;rw[h9 V W];exact A.made hK l10
  ·have M:=Y 10 bq H;obtain⟨xs,c,lo,W1,O,a1,a2,a3,a4,N,X,S,GQ,a9⟩:=A.got M;obtain⟨b,e9,cD,hb2,hbk⟩:=a9 (H 9 pd);rw[E5]at hbk;obtain⟨W',hrun,hb',hg'⟩:=nD V W b lo xs c W e9 (X (H 7 pd)) hbk a3;rw[hrun];exact A.kept hK hlow M (H 9 pd) E5 O e9 hb' hg'
  ·have M:=Y 11 bq H;obtain⟨xs,c,lo,W1,O,-,-,-,-,N,X,S,-⟩:=A.got M;rw[yr V W c (S (H 8 pd))];exact A.late 11 _ bq M λxs' c' e=>by rw[(abe O e).2];rfl
 ·intro V W A;have R:∀j,j<12->decide (j<ops.size)=true:=λj hj=>by rw[hsz];simpa using hj
  obtain⟨xs,c,lo,W1,O,a1,a2,a3,a4,N,X,S,GQ,a9⟩:=A.got (R 5 aZ);obtain⟨b,e9,cD,hb2,hbk⟩:=a9 (R 9 aZ);rw[R 10 aZ]at hbk;exact fin V W b xs c lo A.k (λj hj=>A.pre j hj (R j aZ)) O (N (R 6 aZ)) (X (R 7 aZ)) (S (R 8 aZ)) e9 (GQ (R 11 aZ)) cD hbk a1 a3
end
section
variable {M:Nat->Prop} {p:pH} {B:cJ} {w w':aP}
theorem cS.log(h:cS M p B w){vd vr d}(t:UR p.gl p.gd vd vr d w')(u:qu p.gl p.gd p.vd p.vr vd vr w w') :
 cS (λk=>M k∨cO { p with vd:=vd,vr:=vr } k) { p with vd:=vd,vr:=vr } { B with dk:=d } w'/\bf (cO p) w w'/\∀k,cO { p with vd:=vd,vr:=vr } k->cO p k∨Z (D w)<=k:=by
 obtain⟨L,H,A,C,z⟩:=h.apart
 have hn:∀k,cO { p with vd:=vd,vr:=vr } k->cO p k∨Z (D w)<=k:=λk hk=>by
  rcases hk with hk|hk|hk|hk
  ·exact aI (aI hk)
  ·exact aI (aJ (aI hk))
  ·exact aI (aJ (aJ (aI hk)))
  ·exact (u.new k hk).imp (λh=>aJ (aJ (aJ h))) id
 have hz:=u.up.size
 refine⟨⟨h.blk.cA u.up A,t,h.rep.cA u.up C,h.yJ.cA u.up z,?_,λk hk=>aJ hk,λk hk=>?_,h.ne⟩,u.up.more λk hk=>aJ (aJ (aJ hk)),hn⟩
 ·have y:=h.df.to (N:=λk=>M k∨cO { p with vd:=vd,vr:=vr } k) u.up (λk hk=>h.sub k (aJ (aJ (aJ hk)))) λk hk j=>j.elim id λj=>h.sub k ((hn k j).resolve_right aZ)
  exact y.mono λW d=>⟨d.par,d.bj,d.list,d.prom,d.ab,d.bH,d.ie,d.waits,d.dq⟩
 ·rcases hk with hk|hk
  ·exact cQ (h.low k hk) hz
  ·rcases hk with hk|hk|hk|hk
   ·exact cQ (h.low k (h.sub k (aI hk))) hz
   ·exact cQ (h.low k (h.sub k (aJ (aI hk)))) hz
   ·exact cQ (h.low k (h.sub k (aJ (aJ (aI hk))))) hz
   ·exact t.lt k hk
theorem cS.aEd(h:cS M p B w){s vl vq va}(C:nF M s vl vq va w) :
 cS M { p with vl:=vl,vq:=vq,va:=va } { B with st:=s } (ax (ax (ax (ax w ⟨p.g,4,U⟩ (G E s.life)) ⟨p.g,5,U⟩ vl) ⟨p.g,6,U⟩ vq) ⟨p.g,7,U⟩ va):=by
 have g:=h.sub p.g (aI rfl)
 have t:=h.cell (p':=p) (B':={ B with st:=⟨s.life,B.st.list,B.st.prom,B.st.ab⟩ }) 4 (G E s.life) (h.blk.cz 4 _) ⟨rfl,rfl,rfl,rfl,rfl,rfl,rfl,rfl⟩ ⟨rfl,rfl⟩ λW u d=>⟨d.par,d.bj,d.list,d.prom,d.ab,d.bH,d.ie,d.waits,d.dq⟩
 have z:nF M s vl vq va _:=C.up (bf.dc (X:=M) g 4 (G E s.life)) λ_ h=>h
 have j:=t.cell (p':={ p with vl:=vl }) (B':={ B with st:=⟨s.life,s.list,B.st.prom,B.st.ab⟩ }) 5 vl (t.blk.cz 5 _) ⟨rfl,rfl,rfl,rfl,rfl,rfl,rfl,rfl⟩ ⟨rfl,rfl⟩ λW u d=>⟨d.par,d.bj,(z W u).1,d.prom,d.ab,d.bH,d.ie,d.waits,d.dq⟩
 have y:nF M s vl vq va _:=z.up (bf.dc (X:=M) g 5 vl) λ_ h=>h
 have A:=j.cell (p':={ p with vl:=vl,vq:=vq }) (B':={ B with st:=⟨s.life,s.list,s.prom,B.st.ab⟩ }) 6 vq (j.blk.cz 6 _) ⟨rfl,rfl,rfl,rfl,rfl,rfl,rfl,rfl⟩ ⟨rfl,rfl⟩ λW u d=>⟨d.par,d.bj,d.list,(y W u).2.1,d.ab,d.bH,d.ie,d.waits,d.dq⟩
 have H:nF M s vl vq va _:=y.up (bf.dc (X:=M) g 6 vq) λ_ h=>h
 exact A.cell (p':={ p with vl:=vl,vq:=vq,va:=va }) (B':={ B with st:=s }) 7 va (A.blk.cz 7 _) ⟨rfl,rfl,rfl,rfl,rfl,rfl,rfl,rfl⟩ ⟨rfl,rfl⟩ λW u d=>⟨d.par,d.bj,d.list,d.prom,(H W u).2.2,d.bH,d.ie,d.waits,d.dq⟩
end
theorem azP{d r}(j:wY d r=aA):qv (kT d) [dw r] d.room=(kT ⟨d.gQ++[r],d.room⟩,0):=by
 simp only[wY,fB,decide_eq_true_eq]at j
 have:=XM j.1
 have:Q (kT d)+Q (frames [dw r])<=d.room:=by
  grind [kT,Q5,frames,Ek]
 unfold qv wi
 grind [wY,qv,kT,dw,frames]
theorem azQ{d r}(t:wY d r=az):(qv (kT d) [dw r] d.room).1=kT d/\(qv (kT d) [dw r] d.room).2≠0:=by
 have:¬(Q (dw r)<=4000/\jQ d.gQ+zI (dw r)<=d.room):=by grind [wY]
 unfold qv
 grind [dw,jw,wi,kT,Q5,frames,Ek]
theorem avM{s r}(j:fK r=aA)(h:fR s r=U):oD s r=(s,160):=by grind [oD]
theorem afN{s t r}(j:fK r=aA)(h:fR s r=I t):oD s r=(t,0):=by grind [oD]
theorem axK{x}(h:fK x=aA)(j:lH x):Q (dw x)<=30000:=by
 have:=eM (cL x.kind) (jb _);have:=eM x.n j.2.1;have:=eM (cL x.br) (jb _);have:=eM x.life j.2.2.2.2.1;have:=eM x.dN j.2.2.2.2.2;rcases Eh h with ⟨hk,-⟩|⟨hk,t,-⟩|⟨hk,-⟩
 ·grind [fK,lH,dw]
 ·have:=MW t j.2.2.1;have:=eM (Q (fU x.e)) aZ;rw[ago aZ];simp only[eU,jA];omega
 ·grind [fK,lH,dw,iy]
def aDp(s:fe)(j:Int)(lo:Nat)(xs:Array aQ)(c:aQ)(W:aP):Prop:=∃vl vp va,xs=dY s vl vp va/\c=G J j/\nF (λk=>k<lo) s vl vp va W
theorem MG{M p B w}(h:cS M p B w)(hG:cX B) r u(hr:si r u w)(hfit:lH r)(gG:fX r.e) :
 aK prog 247 #[aj (I ⟨p.g,0,U⟩),u] w λe w'=>e=ak (ar (fk B r).2)/\eX M p (fk B r).1 w w':=by
 have HN:Hid (fk B r=if fK r&&wY B.dk r then (match fR B.st r with
  | none=>(B,az)
  | some t=>({ B with st:=t,dk:=⟨B.dk.gQ++[r],B.dk.room⟩,bH:=if r.kind=2 then iq B.bH (bB r.e)else B.bH },aA))
  else (B,az)):=aY rfl
 have H:=aY h
 have HX:=aY λk hk=>h.low k (h.sub k hk)
 have HM:=aY h.low
 have C1:=aY λW (k:K w W)=>XH r u W (Tp hr k) hfit
 have abf:=hG.FY
 have ko:=hG.dk.len
 have C2:=aY λW (k:K w W)=>azn B.st r (av (dY B.st p.vl p.vq p.va)) u W ⟨_,_,_,rfl,(h.df.at k).list,(h.df.at k).prom,(h.df.at k).ab⟩ (Tp hr k) hfit gG abf.1 abf.2.1 ⟨aZ,aZ,aZ⟩
 have q:=h.q
 have hs1:=bD h.df.now.list
 have gH:=bD h.df.now.prom
 have iI:=bD h.df.now.ab
 have hs4:=bD h.df.now.bH
 obtain⟨vf,ve,rfl,hf,he⟩:=hr
 obtain⟨Af,cf,rfl⟩:=dK hf
 obtain⟨Ae,ce,rfl⟩:=bD he
 have hb:=bn.new w 171 (gP r (F Af (Q r.e.f) cf) (F Ae (Q r.e.es) ce))
 have k1:=hb.cC
 have HGO:=aY hG
 clear hf he abf ko h hG
 generalize fk B r=R at *
 go_in
 go_upto_region 1 with fail
 generalize w.alloc _=w1 at *
 generalize oW:Z (D w)=ga at hb⊢
 have nH:=aY oW
 clear oW
 have qa:=hb.cell
 go_wp2_with fail
 refine (C1.aX w1 k1).mono ?_
 rintro e w2⟨v2,rfl,gI,k2⟩
 have cT:=k1.tr k2
 have hb2:=hb.bF k2
 clear C1 qa
 have HC:Hid (wR r=if fK r then 0 else 110):=aY rfl
 have HE:Hid (Cz r=if fK r then dw r else []):=aY rfl
 generalize wR r=cc at *
 generalize Cz r=eb at *
 cases hok:fK r
 ·have HR:Hid (R=(B,az)):=aY (by rw[HN.aX,hok];rfl);obtain rfl:cc=110:=by rw[HC.aX,hok];rfl
  have HF:=aY (H.aX.n cT);obtain⟨A2,c2,rfl,-⟩:=gI.slice;clear q hb hb2 gI;exact NL
 obtain rfl:cc=0:=by rw[HC.aX,hok];rfl
 obtain rfl:eb=dw r:=Yx
 obtain⟨A2,c2,rfl,-⟩:=gI.slice
 have zP:=aY gI
 have j8:=aY hok
 clear gI HC HE hok
 go_upto_region 4 with fail
 have q2:=λW (k:K w2 W)=>q W (cT.tr k)
 have qb:=hb2.cells
 have C3:=aY λW (k:K w2 W)=>C2.aX W (cT.tr k)
 obtain⟨y,hs'⟩:∃y,y=(oD B.st r).1:=⟨_,rfl⟩
 obtain⟨code,Iu⟩:∃c,c=(oD B.st r).2:=⟨_,rfl⟩
 simp only[<- hs',<- Iu]at C3
 have HST:=aY hs'
 have HCD:=aY Iu
 obtain⟨g,gl,gd,gr,gt,vd,vr,vp,vh,vl,vq,va,vt,mh,vw,kr⟩:=p
 simp only at q2 hs1 gH iI hs4 C3
 obtain⟨Al,cl,rfl⟩:=hs1
 obtain⟨Aq,cq,rfl⟩:=gH
 obtain⟨Aa,ca,rfl⟩:=iI
 obtain⟨At,ct,rfl⟩:=hs4
 have yF:=aY hb2
 clear q hb hb2 C2 hs' Iu
 refine aeA 61 ot (λi=>[aj (I ⟨g,0,U⟩),aj (I ⟨g,0,U⟩),aj (I ⟨g,4,U⟩),av (dY B.st (F Al (Q B.st.list) cl) (F Aq (Q B.st.prom) cq) (F Aa (Q B.st.ab) ca)),av (gP r (F Af (Q r.e.f) cf) (F Ae (Q r.e.es) ce))].getD i undef) (aDp y code)
  [([],[]),([0],[(16,0)]),([1],[(17,1)]),([2],[(18,2)]),([],[]),([3,4],[(19,3),(20,4)]),([5],[(21,5)]),([6],[(15,6)]),([6],[(15,6)]),([],[]),([7,9],[(7,9),(22,7)]),([8],[(23,8)])] 292 #[av (dY B.st (F Al (Q B.st.list) cl) (F Aq (Q B.st.prom) cq) (F Aa (Q B.st.ab) ca)),av (gP r (F Af (Q r.e.f) cf) (F Ae (Q r.e.es) ce))] 52 rfl cY cY cY rfl rfl ?gd ?pre ?call ?cc ?h6 ?h7 ?h8 ?h9 ?nD ?yr ?hk ?hlow ?_
 case gd=>simp
 case pre => intro i hi V W kW hp;have:i=0∨i=1∨i=2∨i=3∨i=4:=aZ;rcases this with rfl|rfl|rfl|rfl|rfl <;> simp at hp <;> simp[nC,bP,aC,hp,aL,bR,q2,qb,kW,go_sem]
 case call=>intro V W kW h3 h4;simp at h3 h4;simp[nC,bP,aC,h3,h4,aL,bR,go_sem]
 case cc => intro W kW;refine (C3.aX W kW).mono ?_;rintro e w3⟨O,T,L,rfl,A,k3⟩;exact⟨_,_,rfl,⟨O,T,L,rfl,rfl,A⟩,k3⟩
 case h6=>intro V W v h5;simp[nC,bP,aC,h5,aL,bR,go_sem]
 case h7=>intro V W xs c h5;simp[nC,bP,aC,h5,aL,bR,go_sem]
 case h8=>intro V W xs c h5;simp[nC,bP,aC,h5,aL,bR,go_sem]
 case h9=>intro V W;simp[nC,aL,bR,go_sem]
 case nD => rintro V W b lo xs c W0 e9 e7 hb⟨O,T,L,rfl,-,A⟩;obtain⟨⟨El,fl,rfl⟩,⟨Y,S,rfl⟩,N,fa,rfl⟩:=A.sl;have qz:=hb.cell;have zz:=hb.frozen;have u:=bf.sets (X:=λk=>k=b) rfl [G E y.life,F El (Q y.list) fl,F Y (Q y.prom) S,F N (Q y.ab) fa] 0 W;exact⟨_,by simp[nC,bP,aC,e9,e7,aL,bR,qz,zz,go_sem];rfl,Cy (us:=[G E y.life,F El (Q y.list) fl,F Y (Q y.prom) S,F N (Q y.ab) fa]) hb rfl,⟨u.os,u.tape,u.output,u.size,λk hk hne=>u.block k hk λe=>hne Hy⟩⟩
 case yr=>intro V W c h5;simp[nC,bP,aC,h5,aL,bR,go_sem]
 case hk=>rintro lo xs c W W'⟨O,T,L,a2,a3,A⟩ k;exact⟨O,T,L,a2,a3,A.k k⟩
 case hlow=>rintro lo xs c W W' b⟨O,T,L,a2,a3,A⟩ hb u;exact⟨O,T,L,a2,a3,A.up u λk e=>e▸hb⟩
 intro V W b xs c lo kW hcs e5 e6 e7 e8 e9 tV dt hbk hlo Fi
 obtain⟨O,T,L,rfl,rfl,A⟩:=Fi
 obtain⟨⟨El,fl,rfl⟩,⟨Y,S,rfl⟩,N,fa,rfl⟩:=A.sl
 simp only[iu,Act.put,ue,tC,tB,e5,e6,e7,e8,e9,tV]
 have Cj:=cT.tr kW
 cases Ai:fR B.st r with
 | none =>
  have HR:Hid (R=(B,az)):=aY (by rw[HN.aX,j8.aX,Ai];split <;> rfl);obtain rfl:code=160:=by rw[HCD.aX,avM j8.aX Ai]
  have HF:=aY (H.aX.n Cj);clear hcs e5 e6 e7 e8 e9 tV hbk A q2 qb C3 Ai;exact NL
 | some t =>
  obtain rfl:code=0:=by rw[HCD.aX,afN j8.aX Ai]
  obtain rfl:y=t:=by rw[HST.aX,afN j8.aX Ai]
  have HR:Hid (R=if wY B.dk r then ({ B with st:=y,dk:=⟨B.dk.gQ++[r],B.dk.room⟩,bH:=if r.kind=2 then iq B.bH (bB r.e)else B.bH },aA)else (B,az)):=aY (by rw[HN.aX,j8.aX,Ai];rfl);have Jb:=H.aX.st Cj;have C:=K.new W (aq #[F A2 (Q (dw r)) c2] 118);have aEe:∀k,mm gl gd vd vr k->k<Z (D w):=λk hk=>HX.aX k (aJ (aJ (aJ hk)))
  have oV:=Cj.size;have hz1:=k1.size;have ox:Fx (mm gl gd vd vr) (λW'=>bw mJ [dw r] (F (I ⟨Z (D W),0,U⟩) 1 1) W') (aU W (aq #[F A2 (Q (dw r)) c2] 118)):=λW' u=>by
   have hown:=ke (sG zP.aX (kW.tr C)) u λk hk z=>by have:=(zP.aX.lt k hk).1;have:=aEe k z;omega
   have aoa:=(bn.new W 118 #[F A2 (Q (dw r)) c2]).cA u λz=>bG
   refine⟨I ⟨Z (D W),0,U⟩,1,rfl,⟨[[F A2 (Q (dw r)) c2]],Each.one ⟨_,rfl,gD hown⟩,rfl,λ_=>⟨Z (D W),0,rfl,aoa.lt,λj u hu=>?_⟩⟩,bq⟩;rw[ng,aoa.cell j];simpa using hu
  have dt:∀b∈[dw r],Q b<=1000000000:=λb hb=>by simp at hb;subst hb;exact cI (axK j8.aX hfit) aZ
  have C4:=aY (atj gl gd vd vr (F (I ⟨Z (D W),0,U⟩) 1 1) (kT B.dk) B.dk.room [dw r] _ (Jb.lg.st C) ox bq dt);have qW:=q2 W kW;have rh:=hbk.bF C;have UQ:=aY (H.aX.st (Cj.tr C));have PG:=aY (Cj.tr C);have hne:Hid (wY B.dk r=az->(qv (kT B.dk) [dw r] B.dk.room).1=kT B.dk/\(qv (kT B.dk) [dw r] B.dk.room).2≠0):=aY azQ;have hye:Hid (wY B.dk r=aA->qv (kT B.dk) [dw r] B.dk.room=(kT ⟨B.dk.gQ++[r],B.dk.room⟩,0)):=aY azP;generalize qv (kT B.dk) [dw r] B.dk.room=AP at *;obtain⟨al,ac⟩:=AP;have Vd:=aY A;clear Jb ox dt A q2 qb C3 hcs e5 e6 e7 e8 e9 tV Ai hbk;go_upto_region 7 with fail;go_wp2_with fail
  refine C4.aX.mono ?_;rintro e w6⟨vh6,vr6,rfl,Lw,Js⟩;cases oO:wY B.dk r
  ·have gZ:Hid (R=(B,az)):=aY akk;obtain⟨e1,e2⟩:=hne.aX oO;subst e1;obtain⟨b1,b2,b3⟩:=UQ.aX.log (d:=B.dk) Lw Js;have HF:Hid (eX M ⟨g,gl,gd,gr,gt,vd,vr,vp,vh,F Al (Q B.st.list) cl,F Aq (Q B.st.prom) cq,F Aa (Q B.st.ab) ca,F At (Q B.bH) ct,mh,vw,kr⟩ B w w6):=aY (eX.zW ⟨_,b1,b2,rfl,b3⟩ PG.aX HX.aX);have e3:(ac != 0)=true:=by simpa using e2
   clear b1 b2 b3 Lw Js C4 qW rh C oO e2;go_wp2;go_ret;exact⟨ND,by rw[gZ.aX];exact HF.aX⟩
  have gZ:Hid (R=({ B with st:=y,dk:=⟨B.dk.gQ++[r],B.dk.room⟩,bH:=if r.kind=2 then iq B.bH (bB r.e)else B.bH },aA)):=aY akk;obtain⟨rfl,rfl⟩:=Prod.mk.inj (hye.aX oO);obtain⟨b1,b2,b3⟩:=UQ.aX.log (d:=⟨B.dk.gQ++[r],B.dk.room⟩) Lw Js;have hz2:=cT.size;have oW:=nH.aX;have hs6:nF (λk=>M k∨cO ⟨g,gl,gd,gr,gt,vh6,vr6,vp,vh,F Al (Q B.st.list) cl,F Aq (Q B.st.prom) cq,F Aa (Q B.st.ab) ca,F At (Q B.bH) ct,mh,vw,kr⟩ k) y (F El (Q y.list) fl) (F Y (Q y.prom) S) (F N (Q y.ab) fa) w6:=by
   have h0:=Vd.aX.less λk (hk:k<Z (D w2))=>cQ hk hlo
   refine h0.to (X:=mm gl gd vd vr) ((bf.bS C _).tr Js.up) (λk hk=>bG) λk hk z=>?_
   rcases z with z|z
   ·have:=HM.aX k z;omega
   ·rcases b3 k z with z|z
    ·have:=HX.aX k z;omega
    ·have:=C.size;omega
  have aob:=rh.cA Js.up λz=>bG
  have lQ:=(yF.aX.bF (kW.tr C)).cA Js.up λz=>bG
  have hP:=b1.aEd hs6;simp only at hP;have HU6:=aY ((bf.bS PG.aX _).tr b2);have HN6:=aY b3;have q6:=b1.blk.cell;have z6:=b1.blk.frozen;have qs6:=aob.cell;clear b2 b3 hs6 b1 Lw Js C4 qW rh C hne hye oO;go_upto_region 10 with fail;have u7:=(((bf.dc (X:=λk=>k=g) (W:=w6) rfl 4 (G E y.life)).tr (bf.dc (X:=λk=>k=g) rfl 5 (F El (Q y.list) fl))).tr (bf.dc (X:=λk=>k=g) rfl 6 (F Y (Q y.prom) S))).tr (bf.dc (X:=λk=>k=g) rfl 7 (F N (Q y.ab) fa));have gL:=HX.aX g (aI rfl);have lh:=lQ.cA u7 aZ;generalize ax (ax (ax (ax w6 _ _) _ _) _ _) _ _=w7 at *;have LU:=aY (HU6.aX.tr (u7.more λk hk=>aI hk));have PH:=aY PG.aX.size;have q7:=lh.cells;clear q6 z6 qs6 aob lQ u7 lh;by_cases hk2:r.kind=2;rotate_left
  ·have HRF:Hid (R=({ B with st:=y,dk:=⟨B.dk.gQ++[r],B.dk.room⟩ },aA)):=aY (by rw[gZ.aX,bO hk2]);have lN:(r.kind==2)=false:=by simpa using hk2
   have HF:Hid (eX M ⟨g,gl,gd,gr,gt,vd,vr,vp,vh,F Al (Q B.st.list) cl,F Aq (Q B.st.prom) cq,F Aa (Q B.st.ab) ca,F At (Q B.bH) ct,mh,vw,kr⟩ { B with st:=y,dk:=⟨B.dk.gQ++[r],B.dk.room⟩ } w w7):=aY ⟨⟨g,gl,gd,gr,gt,vh6,vr6,vp,vh,F El (Q y.list) fl,F Y (Q y.prom) S,F N (Q y.ab) fa,F At (Q B.bH) ct,mh,vw,kr⟩,hP,LU.aX,rfl,λk hk=>(HN6.aX k hk).imp id λh=>by have:=PH.aX;omega⟩;have qk:=q7 w7 (K.rf _);clear hP q7 hk2;exact akl
  have HRF:Hid (R=({ B with st:=y,dk:=⟨B.dk.gQ++[r],B.dk.room⟩,bH:=iq B.bH (bB r.e) },aA)):=aY (by rw[gZ.aX,bT hk2]);have qk:=q7 w7 (K.rf _);have C5:=aY λW' (k:K w7 W')=>Ri B.bH (bB r.e) (F At (Q B.bH) ct) W' (hP.df.at k).bH HGO.aX.tx.small HGO.aX.tx.zi
  have qg:=hP.blk.cells;simp only at qg;have HP:=aY hP;clear hP;go_upto_region 11 with fail;clear qk;have qs:=aB q7 qg;refine eQ 9 ?_;iterate 8 refine bA.i ?_
  refine bA.op (λv W'=>cE (Z (D w7)) (Z (D w7)) 178 eC (iq B.bH (bB r.e)) v W') (λ_ _ _ h k=>h.st k) (λV W kW hp=>?_) ?_
  ·(try simp only[dE,bU,bZ,dA,dB,bM]at hp)
   simp[dC,bP,aC,hp,eH,aL,bR,q7,qg,go_sem];exact akm
  clear qs;intro V W kW hA;simp only[bU,bZ,dx,bM,Nat.reduceAdd]at hA;obtain⟨d0,d1,d2,d3,d4,d5,d6,d7,lr,-⟩:=hA;generalize Jt:V 8=v8 at *;have wu:=HP.aX.st kW;have kU:=lr.PA HP.aX.low;obtain⟨A8,c8,rfl⟩:=bD lr.bw;have q8:=wu.blk.cell;have z8:=wu.blk.frozen;simp only at q8 z8;iterate 2 (apply bJ.pure;rfl;(simp[bP,aC,cK,d0,Jt,aL,bR,go_sem];rfl))
  refine bJ.skip (aV W ⟨g,8,U⟩ (F A8 (Q (iq B.bH (bB r.e))) c8)) rfl Zk ?_;refine bJ.e ?_;have GS:=wu.Oz kU;have Ve:=LU.aX.tr (((bf.bS kW _).tr (bf.dc (X:=cO ⟨g,gl,gd,gr,gt,vd,vr,vp,vh,F Al (Q B.st.list) cl,F Aq (Q B.st.prom) cq,F Aa (Q B.st.ab) ca,F At (Q B.bH) ct,mh,vw,kr⟩) (aI rfl) 8 (F A8 (Q (iq B.bH (bB r.e))) c8))));have HF:Hid (eX M ⟨g,gl,gd,gr,gt,vd,vr,vp,vh,F Al (Q B.st.list) cl,F Aq (Q B.st.prom) cq,F Aa (Q B.st.ab) ca,F At (Q B.bH) ct,mh,vw,kr⟩ { B with st:=y,dk:=⟨B.dk.gQ++[r],B.dk.room⟩,bH:=iq B.bH (bB r.e) } w (aV W ⟨g,8,U⟩ (F A8 (Q (iq B.bH (bB r.e))) c8))):=aY ⟨⟨g,gl,gd,gr,gt,vh6,vr6,vp,vh,F El (Q y.list) fl,F Y (Q y.prom) S,F N (Q y.ab) fa,F A8 (Q (iq B.bH (bB r.e))) c8,mh,vw,kr⟩,GS,Ve,rfl,λk hk=>(HN6.aX k hk).imp id λh=>by have:=PH.aX;omega⟩;clear GS Ve wu kU lr q8 z8 q7 qg C5 d0 d1 d2 d3 d4 d5 d6 d7 Jt;exact akl
theorem afb{M p B w}(h:cS M p B w)(t:cX B) x u(z:fc x u w)(hfit:dQ x)(C:fX x) :
 aK prog 213 #[aj (I ⟨p.g,0,U⟩),u] w λe w'=>e=ak (ar (oG B x).2)/\eX M p (oG B x).1 w w':=by
 have HX:=aY λk hk=>h.low k (h.sub k hk)
 have:=t.dk.len
 have A:=aY λW (k:K w W) v (hv:si (oJ (Q B.st.list) x) v W)=>MG (h.st k) t (oJ (Q B.st.list) x) v hv ⟨SH,by simp only[oJ];omega,hfit,SH,CZ,CZ⟩ C
 have T:=aY λW (k:K w W)=>N5 z k
 have q:=h.q
 have y:=bD h.df.now.list
 obtain⟨vf,ve,rfl,O,he⟩:=z
 obtain⟨L,X,rfl⟩:=dK O
 obtain⟨N,ce,rfl⟩:=bD he
 have hb:=bn.new w 128 (bQ x (F L (Q x.f) X) (F N (Q x.es) ce))
 have k1:=hb.cC
 obtain⟨g,gl,gd,gr,gt,vd,vr,vp,vh,vl,vq,va,vt,mh,vw,kr⟩:=p
 simp only at q y
 obtain⟨Al,cl,rfl⟩:=y
 have S:E.wrap ((Q B.st.list:Int))=(Q B.st.list:Int):=by rw[IntWalk.u64_in _ (by omega)]
 unfold oG
 generalize fk B (oJ (Q B.st.list) x)=R at *
 go_in
 go_upto_region 1 with fail
 generalize w.alloc _=Y at *
 generalize Z (D w)=ga at hb⊢
 have qa:=hb.cells
 have q1:=λW (k:K Y W)=>q W (k1.tr k)
 have qs:=aB q1 (aB qa S)
 refine eQ 10 ?_
 iterate 10 refine bA.i ?_
 intro V W kW hA
 simp only[bU,bZ,dx,bM,Nat.reduceAdd]at hA
 obtain⟨e0,e1,e2,e3,e4,e5,e6,e7,e8,e9,-⟩:=hA
 have j:=k1.tr kW
 refine bJ.call _ _ rfl akg ?_
 refine (A.aX W j _ ?_).mono ?_
 ·obtain⟨DQ,DR,e,h1,h2⟩:=T.aX W j;exact Sq
 rintro e w5⟨rfl,hN⟩
 refine⟨_,rfl,?_⟩
 have H:=aY (hN.zW j HX.aX)
 apply bJ.pure
 rfl
 simp[bP,aC,cK,aL,bR,go_sem]
 rfl
 refine bJ.e ?_
 go_wp2
 go_ret
 exact⟨SE,H.aX⟩
theorem aht{B r}(h:(fk B r).2=az):(fk B r).1=B:=by
 grind [fk]
theorem azR{B r}(h:r.kind≠2):(fk B r).1.bH=B.bH:=by
 grind [fk]
theorem asL{M p B w}(h:cS M p B w)(hG:cX B) a(L:dX a) :
 aK prog 214 #[aj (I ⟨p.g,0,U⟩),di a] w λe w'=>e=ak (ar (pO B a).2)/\eX M p (pO B a).1 w w':=by
 have HA:Hid (pO B a=if (fk B (lE 4 a)).2 then ({ (fk B (lE 4 a)).1 with bH:=iq (fk B (lE 4 a)).1.bH a },aA)else (B,az)):=aY rfl
 have HX:=aY λk hk=>h.low k (h.sub k hk)
 have uQ:=aY (@aht B (lE 4 a))
 have Y:Hid ((fk B (lE 4 a)).1.bH=B.bH):=aY (azR FP)
 have Ca:∀W,si (lE 4 a) (av (gP (lE 4 a) (F U 0 0) (F U 0 0))) W:=λW=>⟨_,_,rfl,⟨U,0,rfl,Reads.nil _ _ _ _⟩,gN _ _⟩
 have T:=aY λW (k:K w W)=>MG (h.st k) hG (lE 4 a) _ (Ca W) ⟨by simp[lE,cV],FP,Ht,L.1,L.2.1,L.2.2⟩ (by simp[lE,fX,fo])
 have HG:=aY hG.tx
 have hb:=bn.new w 42 #[G J a.1,G E a.2.1,G E a.2.2]
 have k1:=hb.cC
 generalize pO B a=R at *
 generalize fk B (lE 4 a)=NB at *
 obtain⟨j,ok⟩:=NB
 simp only[lE,gP,fo]at T
 go_in
 go_upto_region 1 with fail
 generalize w.alloc _=w1 at *
 generalize Fj:Z (D w)=ga at hb⊢
 have Pu:=aY Fj
 have qa:=hb.cell
 go_wp2_with fail
 refine (T.aX w1 k1).mono ?_
 rintro e O⟨rfl,H⟩
 cases ok
 ·have HR:Hid (R=(B,az)):=aY (by rw[HA.aX];rfl);obtain rfl:j=B:=uQ.aX rfl;have HF:=aY (H.zW k1 HX.aX);exact NL
 have HR:Hid (R=({ j with bH:=iq j.bH a },aA)):=aY (by rw[HA.aX];rfl)
 have Fj:=Pu.aX
 have hb2:=H.keeps hb λhx=>SF
 obtain⟨p1,t,hu,hg,hn⟩:=H
 have C5:=aY λW (k:K O W)=>Ri j.bH a p1.vt W (t.df.at k).bH (by rw[Y.aX];exact HG.aX.small) (by rw[Y.aX];exact HG.aX.zi)
 have hs4:=bD t.df.now.bH
 have A:=t.q
 have Ju:=aY t
 have HU:=aY hu
 have GI:=aY hn
 rw[<- DY hg]
 have Jv:=aY hg
 have qb:=hb2.cells
 obtain⟨C,gl,gd,gr,gt,vd,vr,vp,vh,vl,vq,va,vt,mh,vw,kr⟩:=p1
 simp only at A C5 hs4
 obtain⟨At,ct,rfl⟩:=hs4
 go_upto_region 3 with fail
 have qs:=aB A qb
 refine eQ 7 ?_
 iterate 6 refine bA.i ?_
 refine bA.op (λv W'=>cE (Z (D O)) (Z (D O)) 178 eC (iq j.bH a) v W') (λ_ _ _ h k=>h.st k) (λV W kW hp=>?_) ?_
 ·(try simp only[dE,bU,bZ,dA,dB,bM]at hp)
  simp[dC,bP,aC,hp,eH,aL,bR,A,qb,go_sem];exact akm
 intro V W kW hA
 simp only[bU,bZ,dx,bM,Nat.reduceAdd]at hA
 obtain⟨d0,d1,d2,d3,d4,d5,S,-⟩:=hA
 generalize Jt:V 6=v8 at *
 have N:=Ju.aX.st kW
 have kU:=S.PA Ju.aX.low
 obtain⟨z,y,rfl⟩:=bD S.bw
 have q8:=N.blk.cell
 have z8:=N.blk.frozen
 simp only at q8 z8
 iterate 2 (apply bJ.pure;rfl;(simp[bP,aC,cK,d0,Jt,aL,bR,go_sem];rfl))
 refine bJ.skip (aV W ⟨C,8,U⟩ (F z (Q (iq j.bH a)) y)) rfl Zk ?_
 refine bJ.e ?_
 have GS:=N.Oz kU
 have Ve:=(bf.bS k1 _).tr (HU.aX.tr (((bf.bS kW _).tr (bf.dc (X:=cO p) (aI (by have:=DY Jv.aX;exact this)) 8 (F z (Q (iq j.bH a)) y)))))
 have HF:Hid (eX M p { j with bH:=iq j.bH a } w (aV W ⟨C,8,U⟩ (F z (Q (iq j.bH a)) y))):=aY ⟨⟨C,gl,gd,gr,gt,vd,vr,vp,vh,vl,vq,va,F z (Q (iq j.bH a)) y,mh,vw,kr⟩,GS,Ve,Jv.aX,λk hk=>(GI.aX k hk).imp id λh=>cI k1.size h⟩
 go_wp2
 go_ret
 exact⟨ib,Kt⟩
def Aj:fE gM where
 size:=8
 rel m cs w:=∃t A y z B j,cs=(mK m t A y z B j).toList/\bw qj m.dU t w/\bw cF m.asks A w/\bw cF m.entries y w/\bw cF m.gu z w/\bw dJ m.fA B w/\bw dJ m.ends j w
 len:=by rintro _ _ _⟨t,A,y,z,B,j,rfl,_⟩;rfl
 one:=by rintro x _ _⟨t,A,y,z,B,j,rfl,L,C,M,N,H,h6⟩ u hu;obtain⟨_,_,rfl⟩:=bD L;obtain⟨_,_,rfl⟩:=bD C;obtain⟨_,_,rfl⟩:=bD M;obtain⟨_,_,rfl⟩:=bD N;obtain⟨_,_,rfl⟩:=bD H;obtain⟨_,_,rfl⟩:=bD h6;exact aiA
 st:=by rintro _ _ _ _⟨t,A,y,z,B,j,rfl,L,C,M,N,H,h6⟩ k;exact⟨_,_,_,_,_,_,rfl,cH L k,cH C k,cH M k,cH N k,cH H k,cH h6 k⟩
abbrev Fk:Array aQ:=#[G J 0,G E 0,F U 0 0,F U 0 0,F U 0 0,F U 0 0,F U 0 0,F U 0 0]
theorem aDq W:nG yg (av Fk) W:=⟨_,_,_,_,_,_,rfl,gN _ _,gN _ _,gN _ _,gN _ _,gN _ _,gN _ _⟩
theorem EV.look{l bu W}(h:EV l bu W) k:nG (((l.find? λp=>decide (p.1=k)).map (·.2)).getD yg) ((eA bu k).getD (av Fk)) W:=by
 have key:∀(l:List (Int×gM)) (bu:List (Int×aQ)) (i:Nat),EV l bu W->nG (((l.find? λp=>decide (p.1=k)).map (·.2)).getD yg) (((iG k bu i).map (·.2)).getD (av Fk)) W:=by
  intro l
  induction l with
  | nil => intro bu i h;have:bu=[]:=List.eq_nil_of_length_eq_zero h.1;subst this;exact aDq W
  | cons q l A =>
   intro bu i h
   cases bu with
   | nil=>have:=h.1;simp at this
   | cons p bu =>
    have t:=h.2 0 bq bq;simp only[List.getElem_cons_zero]at t;have y:EV l bu W:=⟨by have:=h.1;simpa using this,λj C B=>by
     have:=h.2 (j+1) bG bG;simpa using this⟩
    unfold iG;by_cases e:q.1=k
    ·rw[List.find?_cons_of_pos Ny,bT (t.1.trans e)];exact t.2
    ·rw[List.find?_cons_of_neg Ny,bO (λz=>e (t.1.symm.trans z))];exact A bu (i+1) y
 exact key l bu 0 h
theorem anh W:(zeroValue 239).run prog W=.ok (av Fk) W:=by rfl
theorem aCF:(prog.info? 239).map (λi=>(i.zero,i.size,i.bytes))=I (I (av Fk),8,160):=by rfl
theorem TMs:ir prog 243 239 (av Fk) 8 160:=⟨underlying243,aCF,rfl,bC⟩
section
variable {α:Type} {S:fE α} {M N X Y:Nat->Prop} {base:Nat} {e:TypeId} {l:List α} {v:aQ} {w w':aP}
def ky(M:Nat->Prop)(S:fE α)(l:List α)(v:aQ)(w:aP):Prop :=
 ∃A c css,v=F A (Q l) c/\Q l<=c/\Reads w (Z (D w)) S.size A (Q l) css.flatten/\Q css=Q l/\(l≠[]->0<S.size->∀b j,A=I ⟨b,j,U⟩->¬M b)/\∀W,bf M w W->Each S l css W
theorem ky.bw(h:ky M S l v w):Go.Proofs.YtcjlnlcpodcldaaGreat.bw S l v w:=by obtain⟨A,c,css,rfl,t,j,z,-,y⟩:=h;exact⟨A,c,rfl,⟨css,y w (bf.rf _ _),j⟩,t⟩
theorem ky.slice(h:ky M S l v w):∃A c,v=F A (Q l) c:=bD h.bw
theorem ky.st(h:ky M S l v w)(k:K w w'):ky M S l v w':=by obtain⟨A,c,css,rfl,y,t,j,hn,z⟩:=h;exact⟨A,c,css,rfl,y,(t.below k (bL _)).more k.size,j,hn,λW u=>z W ((bf.bS k _).tr u)⟩
theorem ky.to(h:ky M S l v w)(u:bf X w w')(R:∀k,X k->M k)(P:∀k,k<Z (D w)->N k->M k)(Y:0<S.size):ky N S l v w':=by
 obtain⟨A,c,css,rfl,hc,t,hl,hn,hE⟩:=h;have hR':Reads w' (Z (D w')) S.size A (Q l) css.flatten:=by
  refine⟨t.1,λC=>?_⟩;obtain⟨b,y,e,hb,hcell⟩:=t.2 C;refine⟨b,y,e,cQ hb u.size,λj x H=>?_⟩;have T:l≠[]:=by intro e;have:=t.1;rw[e]at this;simp only[List.length_nil,Nat.zero_mul]at this;omega
  have B:=hn T Y b y e;rw[<- hcell j x H];exact World.cell?_of_block (u.block b hb λH=>B (R b H))
 exact⟨A,c,css,rfl,hc,hR',hl,λB O b y L h4=>by
  have C:0<Q css.flatten:=by rw[t.1];exact Nat.mul_pos (List.length_pos_iff.2 B) O
  obtain⟨b',off',z,hb,-⟩:=t.2 C;rw[L]at z;injection z with z;injection z with e1 e2;subst e1;exact hn B O b y L (P b hb h4),λW V=>hE W ((u.more R).iA V P)⟩
theorem ky.fx(h:ky M S l v w)(j:0<S.size):Fx M (λW=>Go.Proofs.YtcjlnlcpodcldaaGreat.bw S l v W) w:=λ_ u=>(h.to u (λ_ h=>h) (λ_ _ h=>h) j).bw
theorem ky.nil M(S:fE α) w:ky M S [] (F U 0 0) w:=⟨U,0,[],rfl,bL _,Reads.nil _ _ _ _,rfl,λh=>absurd rfl h,λ_ _=>Each.nil _ _⟩
theorem ky.at(h:ky M S l v w) i(z:i<Q l)(C:0<S.size):∃b t c cs,v=F (I ⟨b,t,U⟩) (Q l) c/\¬M b/\Q cs=S.size/\Fx M (λW=>S.rel l[i] cs W) w/\∀W,bf M w W->∀j,j<S.size->W.cell? ⟨b,t+i*S.size+j,U⟩=cs[j]?:=by
 obtain⟨A,c,css,rfl,hc,L,hl,hn,B⟩:=h;obtain⟨cs,h1,N,X,O⟩:=(B w (bf.rf _ _)).get i z;have H:0<Q css.flatten:=by
  grind
 obtain⟨b,t,rfl,hb,R⟩:=L.2 H;have y:=hn bG C b t rfl;refine⟨b,t,c,cs,rfl,y,N,λW u=>?_,λW u j T=>?_⟩
 ·obtain⟨Y,V,g2,g3,g4⟩:=(B W u).get i z;grind
 ·have:=O j T;rw[aE (show j<Q cs by omega)]at this⊢;rw[Nat.add_assoc,<- R _ _ this];exact World.cell?_of_block (u.block b hb y)
theorem bK.Jw(h:bK Y base e S l v w)(z:∀k,N k->Y k∨aW v=I k)(hb:∀k,aW v=I k->¬N k):ky N S l v w:=by
 obtain⟨css,j,t,y⟩:=h;have A:=j;rcases j.2 with ⟨rfl,C⟩|⟨g,cap,cur,rfl,_,_,hn,_⟩
 ·grind [List.eq_nil_of_length_eq_zero,ky.nil]
 ·refine⟨_,_,css,rfl,hn,Reads.AW A,t,λ_ _ b B e=>?_,λW u=>y W (u.more z)⟩;injection e with e;injection e with e1 e2;subst e1;exact hb g rfl
theorem asM{b i u x}(h:w.cell? ⟨b,i,U⟩=I u):(aV w ⟨b,i,U⟩ x).cell? ⟨b,i,U⟩=I x:=by
 unfold World.cell? at h⊢
 revert h
 cases hb:w.heap[b]? with
 | none=>simp
 | some o =>
  cases o <;> simp[ax,Array.getElem?_modify,hb]
  grind
theorem Fx.fix(h:Fx M (λW=>bw S l v W) w)(hs:0<S.size)(hS:∀x cs W,S.rel x cs W->cs[0]?≠I (ar aA)):ky M S l v w:=by
 obtain⟨A,c,rfl,⟨css,hE,C⟩,hc⟩:=h.now;have aoc:l≠[]->0<S.size->∀b B,A=I ⟨b,B,U⟩->¬M b:=by
  rintro z-b B rfl hM
  have hp:=List.length_pos_iff.2 z
  obtain⟨cs,g1,V,g3,g4⟩:=hE.get 0 hp
  have N:0<Q css.flatten:=bG
  obtain⟨b',off',e,hb,hcell⟩:=C.2 N
  injection e with e
  injection e with e1 e2
  subst e1 e2
  have hc0:=hcell 0 _ (aE N)
  obtain⟨A',c',t,⟨H,y,hR'⟩,-⟩:=h (aV w ⟨b,B+0,U⟩ (ar aA)) (bf.dc hM _ _)
  injection t with t _ _
  subst t
  have T:0<Q H.flatten:=akn
  obtain⟨b'',aJf,Y,-,aax⟩:=hR'.2 T
  injection Y with Y
  injection Y with e1 e2
  subst e1 e2
  have aEf:=aax 0 _ (aE T)
  rw[asM hc0]at aEf
  obtain⟨cs',f1,f2,f3,f4⟩:=y.get 0 hp
  grind
 refine⟨A,c,css,rfl,hc,C,hE.1,aoc,λW u=>?_⟩;obtain⟨A',c',t,⟨H,y,hR'⟩,-⟩:=h W u;injection t with t _ _;subst t;by_cases z:l=[]
 ·subst z;have:=hE.1;simp at this;subst this;exact Each.nil _ _
 have hp:=List.length_pos_iff.2 z;have N:0<Q css.flatten:=by rw[C.1];exact Nat.mul_pos hp hs
 have T:0<Q H.flatten:=akn;obtain⟨b,B,rfl,hb,hcell⟩:=C.2 N;obtain⟨b',off',e,hb',aax⟩:=hR'.2 T;injection e with e;injection e with e1 e2;subst e1 e2;have heq:css.flatten=H.flatten:=by
  refine List.ext_getElem (by rw[C.1,hR'.1]) λj h1 X=>?_
  have g1:=hcell j _ (aE h1);have V:=aax j _ (aE X);rw[World.cell?_of_block (u.block b hb (aoc z hs b B rfl)),g1]at V;injection V
 have:css=H:=by
  refine List.ext_getElem (by rw[hE.1,y.1]) λi h1 X=>?_
  obtain⟨cs,L,a2,a3,a4⟩:=hE.get i ako;obtain⟨cs',O,b2,b3,b4⟩:=y.get i ako;rw[aE h1]at L;rw[aE X]at O;injection L with L;injection O with O;rw[L,O];refine List.ext_getElem aZ λj h3 h4=>?_
  have R:=a4 j aZ;have q2:=b4 j aZ;rw[heq,q2,aE h3,aE h4]at R;injection R with R;exact R.symm
 rw[this];exact y
end
abbrev abg(x:nB)(vf:aQ):List aQ:=[G J x.cl,G E (x.sub:Int),vf]
abbrev oK(x:nB)(vf:aQ):Array aQ:=#[G J x.cl,G E (x.sub:Int),vf]
def jM:fE nB where
 size:=3
 rel x cs w:=∃vf,cs=abg x vf/\fQ x.f vf w
 len:=by rintro _ _ _⟨vf,rfl,_⟩;rfl
 one:=by rintro x _ _⟨vf,rfl,A,c,rfl,_⟩ u j;simp at j;rcases j with rfl|rfl|rfl <;> rfl
 st:=by rintro _ _ _ _⟨vf,rfl,h⟩ k;exact⟨vf,rfl,fJ _ _ _ _ h k⟩
def sub(x:nB)(v:aQ)(w:aP):Prop:=∃vf,v=av (oK x vf)/\fQ x.f vf w
theorem ani{x v w w'}(h:sub x v w)(k:K w w'):sub x v w':=by obtain⟨vf,rfl,h⟩:=h;exact⟨vf,rfl,fJ _ _ _ _ h k⟩
theorem aCG:(prog.info? 260).map (λi=>(i.zero,i.size,i.bytes))=I (I (av #[G J 0,G E 0,F U 0 0]),3,40):=by rfl
theorem Vf:ir prog 205 260 (av #[G J 0,G E 0,F U 0 0]) 3 40:=⟨underlying205,aCG,rfl,bC⟩
theorem MH{α:Type}(q:α->Bool)(l:List α)(j:Nat)(h:j<Q l):(l.take (j+1)).filter q=(l.take j).filter q++(if q l[j]then [l[j]]else []):=by rw[ix h,List.filter_append];by_cases t:q l[j] <;> simp[t]
theorem Hf M l v q(f:Nat) cs w(h:ky M jM l v w)(hlen:Q l<=1000000)(hf:∀args W,(callFunc f args).run prog W=.ok (.enter f args) W)
 (hC:∀W,K w W->∀x∈l,∀u,sub x u W->aK prog f (#[u]++cs) W λe W'=>e=ak (ar (q x))/\K W W') :
 aK prog 176 #[v,.func (.func f) #[] cs] w λe w'=>∃v',e=ak v'/\bK M (Z (D w)) 260 jM (l.filter q) v' w'/\K w w':=by
 have H:=aY h
 have HC:=aY hC
 have kk:=K.rf w
 have hO:=bK.nil M (Z (D w)) 260 jM w
 obtain⟨A,c,rfl⟩:=h.slice
 go_in
 go_wp2_with fail
 go_loopw [5,7,10] (fun o _ i W=>∃j:Nat,j<=Q l/\i=G J j/\bK M (Z (D w)) 260 jM ((l.take j).filter q) o W/\K w W) (fun _ _ i _=>Q l-(aO i).toNat)
 case atStart=>exact⟨0,aZ,rfl,ic,kk⟩
 case round =>
  obtain⟨j,hj,rfl,hO,kr⟩:=hrel;by_cases N:j<Q l
  ·have cd:(j:Int)<Q l:=aZ;obtain⟨b,O,c',cs1,B,vW,hcl,V,d⟩:=H.aX.at j N bC;injection B with B _ e2;subst B e2;have HT:=aY (MH q l j N);have hm:=dG N;generalize l[j]=x at *;obtain⟨vf,rfl,L⟩:=V.now;have yN:Fx (λk=>M k∨Z (D w)<=k) (λW=>jM.rel x (av (oK x vf)).cells.toList W) wr:=V.to (X:=λ_=>False) (bf.bS kr _) (λ_ h=>h.elim) λk hk t=>t.resolve_right aZ
   have dd:∀i,i<3->wr.cell? ⟨b,O+j*3+i,U⟩=(oK x vf)[i]?:=λi hi=>(d wr (bf.bS kr _) i hi).trans aD
   have:wr.cell? ⟨b,O+j*3,U⟩=I (G J x.cl):=dd 0 bC;have t:=bn.new wr 260 (oK x vf);have k1:=t.cC;obtain⟨y,z,rfl⟩:=dK L;have R:=kr.tr k1;have ia:=hO.st k1;have Jy:=yN.k k1;have Y:=aY (HC.aX _ R x hm (av (oK x (F y (Q x.f) z))) ⟨_,rfl,fJ _ _ _ _ L (kr.tr k1)⟩);go_upto_region 5 with fail;generalize wr.alloc _=w1 at *;have:=t.cell;go_wp2_with fail
   apply dP Y.aX R;intro T C pI;have eE:=ia.st C;have LV:=Jy.k C;have:=(t.bF C).cell;cases hq:q x
   ·exact akp
   have pG:Hid ((l.take (j+1)).filter q=(l.take j).filter q++[x]):=aY Zl;have dt:=eE.blk;have hr:=fL.new (S:=jM) (e:=260) (v:=av (oK x (F y (Q x.f) z))) LV 0 (eO _);have dH:=eE.st ((K.rf T).al (aq (oK x (F y (Q x.f) z)) 260));have eD:=pI.tr ((K.rf T).al (aq (oK x (F y (Q x.f) z)) 260));have L:=ni q (l.take j);have:Q (l.take j)<=1000000:=cG;go_wp2_with (at_builtin;refine kI rfl _ _ 205 rfl _ 3 40 Vf rfl rfl dH _ rfl x ?p1 ?p2 ?p3 ?_)
   case p1=>exact hr.less λk hk=>akq
   case p2=>omega
   case p3=>exact eD.size
   exact akr
  ·exact NK
theorem afc M l v q(f:Nat) cs w(h:ky M dS l v w)(hlen:Q l<=1000000)(hf:∀args W,(callFunc f args).run prog W=.ok (.enter f args) W)
 (hC:∀W,K w W->∀x∈l,∀u,iT x u W->aK prog f (#[u]++cs) W λe W'=>e=ak (ar (q x))/\K W W') :
 aK prog 179 #[v,.func (.func f) #[] cs] w λe w'=>∃v',e=ak v'/\bK M (Z (D w)) 35 dS (l.filter q) v' w'/\K w w':=by
 have H:=aY h
 have HC:=aY hC
 have kk:=K.rf w
 have hO:=bK.nil M (Z (D w)) 35 dS w
 obtain⟨A,c,rfl⟩:=h.slice
 go_in
 go_wp2_with fail
 go_loopw [5,7,10] (fun o _ i W=>∃j:Nat,j<=Q l/\i=G J j/\bK M (Z (D w)) 35 dS ((l.take j).filter q) o W/\K w W) (fun _ _ i _=>Q l-(aO i).toNat)
 case atStart=>exact⟨0,aZ,rfl,ic,kk⟩
 case round =>
  obtain⟨j,hj,rfl,hO,kr⟩:=hrel;by_cases B:j<Q l
  ·have cd:(j:Int)<Q l:=aZ;obtain⟨b,Y,c',cs1,t,vW,hcl,O,d⟩:=H.aX.at j B bC;injection t with t _ e2;subst t e2;have HT:=aY (MH q l j B);have hm:=dG B;generalize l[j]=x at *;obtain⟨ve,rfl,C⟩:=O.now;have yN:Fx (λk=>M k∨Z (D w)<=k) (λW=>dS.rel x [ve] W) wr:=O.to (X:=λ_=>False) (bf.bS kr _) (λ_ h=>h.elim) λk hk hx=>hx.resolve_right aZ
   have:wr.cell? ⟨b,Y+j,U⟩=I ve:=by simpa [dS]using d wr (bf.bS kr _) 0 (by decide)
   obtain⟨y,z,rfl⟩:=tc C;have R:=aY (HC.aX _ kr x hm _ (nL _ _ _ _ C kr));go_wp2_with fail
   apply dP R.aX kr;intro N L pI;have eE:=hO.st L;have T:=yN.k L;cases hq:q x
   ·exact akp
   have pG:Hid ((l.take (j+1)).filter q=(l.take j).filter q++[x]):=aY Zl;have dt:=eE.blk;have hr:=fL.new (S:=dS) (e:=35) (v:=F y (Q x) z) T 0 (eO _);have V:=eE.st ((K.rf N).al (aq #[F y (Q x) z] 35));have eD:=pI.tr ((K.rf N).al (aq #[F y (Q x) z] 35));have:=ni q (l.take j);have:Q (l.take j)<=1000000:=cG;go_wp2_with (at_builtin;refine kI rfl _ _ 43 rfl _ 1 24 Ln rfl rfl V _ rfl x ?p1 ?p2 ?p3 ?_)
   case p1=>exact hr.less λk hk=>akq
   case p2=>omega
   case p3=>exact eD.size
   exact akr
  ·exact NK
theorem WR f v w(h:fQ f v w)(H:Q f<=1000000) :
 aK prog 255 #[v] w λe w'=>∃v',e=ak v'/\iF w' (Z (D w)) v' f/\K w w':=by
 obtain⟨A,c,rfl,B⟩:=h
 go_in
 go_wp2_with (at_builtin;refine j9 rfl _ _ 37 rfl (Z (D w)) 85 _ 5 56 TF _ 0 [] rfl (mr _ _ _ _) _ A (Q f) c (f.flatMap gT) rfl B (J4 f) ?p1 (bL _) ?_)
 case p1=>omega
 intro t y j _ _ z
 have C:=aY (show iF y (Z (D w)) t f from j)
 obtain⟨L,c1,rfl,-⟩:=(show iF y (Z (D w)) t f from j).slice
 go_wp2
 go_ret
 exact⟨_,rfl,C.aX,z⟩
structure KX(base lo:Nat)(l:List nB)(v:aQ)(css:List (List aQ))(j:Nat)(W:aP):Prop where
 row:W.ownsRow base 260 3 v (Q l) css.flatten
 len:Q css=Q l
 a:∀i (h:i<Q l) (h':i<Q css),i<j->∀W',bf (λk=>k<lo∨aW v=I k) W W'->jM.rel l[i] css[i] W'
 b:∀i (h:i<Q l) (h':i<Q css),j<=i->∀W',bf (λk=>aW v=I k) W W'->jM.rel l[i] css[i] W'
theorem KX.st{base lo l v css j W W'}(h:KX base lo l v css j W)(k:K W W'):KX base lo l v css j W' :=
 ⟨sG h.row k,h.len,λi A y t z u=>h.a i A y t z ((bf.bS k _).tr u),λi A y t z u=>h.b i A y t z ((bf.bS k _).tr u)⟩
theorem afO Y base l v w(h:bK Y base 260 jM l v w)(hlen:Q l<=1000000)(hs:∀x∈l,Q x.f<=1000000) :
 aK prog 184 #[v] w λe w'=>e=ak v/\bK (λk=>k<Z (D w)) base 260 jM l v w'/\bf (λk=>aW v=I k) w w':=by
 have hblk:=h.blk
 obtain⟨css,S,h2,h3⟩:=h
 have R:KX base (Z (D w)) l v css 0 w:=⟨S,h2,λi h C B=>absurd B aZ,λi h C _ W' u=>(h3 W' (u.more λk hk=>aJ hk)).2 i h C⟩
 have HS:=aY hs
 have uu:bf (λk=>aW v=I k) w w:=bf.rf _ _
 obtain⟨A,c,hv⟩:∃A c,v=F A (Q l) c:=by
  rcases S.2 with ⟨rfl,h0⟩|⟨g,cap,cur,rfl,_⟩
  ·grind
  ·simp
 subst hv
 go_in
 go_wp2_with fail
 go_loopw [3,6] (fun _ i W=>∃j:Nat,j<=Q l/\i=G J j/\(∃css,KX base (Z (D w)) l (F A (Q l) c) css j W)/\bf (fun k=>aW (F A (Q l) c)=I k) w W) (fun _ i _=>Q l-(aO i).toNat)
 case atStart=>exact⟨0,aZ,rfl,⟨_,R⟩,uu⟩
 case round =>
  obtain⟨j,hj,rfl,⟨cs,t⟩,u⟩:=hrel;by_cases hlt:j<Q l
  ·have cd:(j:Int)<Q l:=aZ;have hcl:=t.len;have hrel:=t.b j hlt aZ (bL _) wr (bf.rf _ _);have hxl:=HS.aX _ (dG hlt);obtain⟨vf,ecs,V⟩:=hrel;obtain⟨g,hA⟩:∃g,A=I ⟨g,0,U⟩:=by
    rcases t.row.2 with ⟨_,h0⟩|⟨g,cap,cur,e,_⟩
    ·omega
    grind
   subst hA;have:=(hblk g rfl).2;have hz:=u.size;obtain⟨q,z⟩:=Hi t.row;have xX:∀c∈cs,Q c=3:=by
    intro c hc;obtain⟨i,B,rfl⟩:=List.mem_iff_getElem.1 hc;by_cases hij:i<j
    ·exact jM.len (t.a i aZ B hij wr (bf.rf _ _))
    ·exact jM.len (t.b i aZ B aZ wr (bf.rf _ _))
   have OB:=t.row.1;have hcj:cs[j]=abg l[j] vf:=ecs;have q2:wr.cell? ⟨g,j*3+2,U⟩=I vf:=by rw[q _ aZ,yV 3 cs xX j 2 aZ bC,aE (show j<Q cs by omega),hcj];rfl
   have R:=aY t;have HCJ:=aY hcj;have HL:=aY xX;have O6:=aY OB;have:Hid (∀W',fQ l[j].f vf W'->jM.rel l[j] (abg l[j] vf) W'):=aY λW' h=>⟨vf,rfl,h⟩
   have Gz:=V;obtain⟨Af,cf,rfl⟩:=dK Gz;have C1:=aY (WR l[j].f _ wr V hxl);go_wp2_with fail
   apply dD C1.aX;rintro v2 H⟨T,O⟩;have L:=R.aX.st O;have:=(Hi L.row).2;have:H.cell? ⟨g,j*3+2,U⟩=I (F Af (Q l[j].f) cf):=by rw[O.cell (by simp;omega)];exact q2
   have zP:=aY T.rel;obtain⟨M,c2,rfl,-⟩:=T.slice;go_upto_region 5 with fail;have hrow:=Yt L.row (q:=j*3+2) (by rw[O6.aX];omega) (F M (Q l[j].f) c2);rw[Q3 3 _ cs HL.aX j 2 aZ bC]at hrow;have N:bf (λk=>aW (F (I ⟨g,0,U⟩) (Q l) c)=I k) H (aV H ⟨g,j*3+2,U⟩ (F M (Q l[j].f) c2)):=bf.dc (X:=λk=>aW (F (I ⟨g,0,U⟩) (Q l) c)=I k) rfl _ _;have u9:=(u.tr (bf.bS O _)).tr N;have hJ9:KX base (Z (D w)) l (F (I ⟨g,0,U⟩) (Q l) c) (cs.set j ((cs[j]).set 2 (F M (Q l[j].f) c2))) (j+1) (aV H ⟨g,j*3+2,U⟩ (F M (Q l[j].f) c2)):=by
    refine⟨hrow,by simp[hcl],λi h C B W' y=>?_,λi h C B W' y=>?_⟩
    ·by_cases e:i=j
     ·subst e;rw[List.getElem_set_self,HCJ.aX];refine⟨_,rfl,zP.aX W' ?_⟩;have u4:=(N.more λk hk=>aJ hk).tr y;exact u4.uE λk S _ _ h4=>by
       grind
     ·rw[List.getElem_set_ne aZ];exact L.a i h aZ aZ W' ((N.more λk hk=>aJ hk).tr y)
    ·rw[List.getElem_set_ne aZ];exact L.b i h aZ aZ W' (N.tr y)
   generalize H.setCell _ _=w3 at *;go_wp2;go_roundw
   case rel=>exact⟨j+1,aZ,cU,⟨_,hJ9⟩,u9⟩
   case measure=>simp[aO];omega
  ·have cd:¬(j:Int)<Q l:=aZ;obtain rfl:j=Q l:=aZ;have HF:Hid (bK (λk=>k<Z (D w)) base 260 jM l (F A (Q l) c) wr):=aY ⟨cs,t.row,t.len,λW' y=>⟨t.len,λi h C=>t.a i h C h W' y⟩⟩;go_wp2;go_ret;exact⟨rfl,HF.aX,u⟩
theorem WH es v w(h:bw dS es v w)(N:Q es<=1000000)(y:∀e∈es,Q e<=1000000) :
 aK prog 178 #[v] w λe w'=>∃v',e=ak v'/\cE (Z (D w)) (Z (D w)) 35 dS es v' w'/\K w w':=by
 obtain⟨S,d,rfl,z,O⟩:=h
 have H:=aY y
 have C:=K.rf w
 go_in
 go_wp2_with fail
 go_loopw [3,5,8] (fun o _ i W=>∃j:Nat,j<=Q es/\i=G J j/\cE (Z (D w)) (Z (D w)) 35 dS (es.take j) o W/\K w W) (fun _ _ i _=>Q es-(aO i).toNat)
 case atStart=>exact⟨0,aZ,rfl,H8,C⟩
 case round =>
  obtain⟨j,X,rfl,hO,kr⟩:=hrel;by_cases hlt:j<Q es
  ·have A:(j:Int)<Q es:=aZ;obtain⟨B,t,cs,rfl,L,hcl,⟨ve,rfl,mE⟩,hcell⟩:=KB z j hlt bC;have V:wr.cell? ⟨B,t+j,U⟩=I ve:=Yz;have HT:Hid (es.take (j+1)=es.take j++[es[j]]):=aY NJ;have M:=H.aX _ (dG hlt);exact aks
  ·have A:¬(j:Int)<Q es:=aZ;rw[iw aZ]at hO;have HO:=aY hO;obtain⟨R,T,rfl,-⟩:=hO.slice;exact Y6
theorem avN a w:aK prog 256 #[G J a] w λe w'=>e=ak (ar az)/\K w w':=akt
theorem avO a b w:aK prog 188 #[G J a,G J b] w λe w'=>e=ak (G J (kM a b))/\K w w':=by
 have C1:=aY λa W=>avN a W
 exact aku
theorem avP a w:aK prog 257 #[G E a] w λe w'=>e=ak (ar az)/\K w w':=akt
theorem avQ a b w:aK prog 189 #[G E a,G E b] w λe w'=>e=ak (G J (kM a b))/\K w w':=by
 have C1:=aY λa W=>avP a W
 exact aku
def Jz(l:List Int):Int:=(l.find? λn=>decide (n≠0)).getD 0
theorem aDr a b:Jz [a,b]=if a != 0 then a else b:=by
 grind [Jz]
theorem asf{α:Type}(p:α->Bool)(l:List α)(j:Nat)(t:j<Q l)(h:(l.take j).find? p=U):(l.take (j+1)).find? p=if p l[j]then I l[j]else none:=by rw[ix t,List.find?_append,h];by_cases hp:p l[j] <;> simp[hp]
theorem atu{α:Type}(p:α->Bool)(l:List α)(j:Nat)(x:α)(h:(l.take j).find? p=I x):l.find? p=I x:=by rw[<- List.take_append_drop j l,List.find?_append,h];rfl
theorem axL l v w(h:bw eu l v w)(X:Q l<=1000000):aK prog 187 #[v] w λe w'=>e=ak (G J (Jz l))/\K w w':=by
 obtain⟨A,c,rfl,t,-⟩:=h;have z:=K.rf w;have C:Hid (Jz l=(l.find? λn=>decide (n≠0)).getD 0):=aY rfl;generalize Jz l=R at *;go_in;go_wp2_with fail
 go_loopw [5,8] (fun _ i W=>∃j:Nat,j<=Q l/\i=G J j/\Hid ((l.take j).find? (fun n=>decide (n≠0))=U)/\K w W) (fun _ i _=>Q l-(aO i).toNat)
 case atStart=>exact⟨0,aZ,rfl,aY bq,z⟩
 case round =>
  clear z;obtain⟨j,S,rfl,H,kr⟩:=hrel;by_cases y:j<Q l
  ·have M:(j:Int)<Q l:=aZ;obtain⟨b,T,rfl,B⟩:=Go.Proofs.YtcjlnlcpodcldaaGreat.ints_at t aZ;have Y:=B wr kr j y;have L:=aY (asf (λn=>decide (n≠0)) l j y H.aX);have O:=aY (atu (λn=>decide (n≠0)) l (j+1));generalize l[j]=x at *;clear B t;by_cases hx:x=0
   ·have N:Hid ((l.take (j+1)).find? (λn=>decide (n≠0))=U):=aY (by rw[L.aX,hx];simp);subst hx;go_wp2;go_roundw
    case rel=>exact⟨j+1,aZ,cU,N,kr⟩
    case measure=>simp[aO];omega
   ·have HE:Hid (R=x):=aY (by rw[C.aX,O.aX x (by rw[L.aX];simp[hx])];rfl);have V:(x != 0)=true:=Nj;exact NH
  ·have M:¬(j:Int)<Q l:=aZ;have HE:Hid (R=0):=aY (by
    have:=H.aX;rw[iw aZ]at this;rw[C.aX,this];rfl)
   exact NH
theorem afP s x v vf ve g w(h:sub s v w)(hg:bn w g 128 (bQ x vf ve)) :
 aK prog 186 #[v,aj (I ⟨g,0,U⟩)] w λe w'=>e=ak (G J (lC s x))/\K w w':=by
 have HR:Hid (lC s x=Jz [kM s.cl x.cl,kM (s.sub:Int) (x.sub:Int)]):=aY (by rw[aDr];rfl)
 obtain⟨vs,rfl,N⟩:=h
 obtain⟨A,c,rfl⟩:=dK N
 have hb:=bn.new w 260 (oK s (F A (Q s.f) c))
 have k1:=hb.cC
 have T:=hg.cells
 generalize lC s x=R at *
 go_in
 go_upto_region 1 with fail
 generalize w.alloc _=S at *
 generalize Z (D w)=ga at hb⊢
 have B:=hb.cells
 have y:=λW (k:K S W)=>T W (k1.tr k)
 have L:=aY λW=>avO s.cl x.cl W
 have X:=aY λW=>avQ (s.sub:Int) (x.sub:Int) W
 have O:=aY λv W (h:bw eu [kM s.cl x.cl,kM (s.sub:Int) (x.sub:Int)] v W)=>axL _ v W h bq
 generalize kM s.cl x.cl=t at *
 generalize kM (s.sub:Int) (x.sub:Int)=j at *
 generalize Jz [t,j]=Y at *
 have qs:=aB B y
 refine QW 13 [([],[]),([0],[(4,0)]),([],[]),([2],[(6,2)]),([1,3],[(5,1),(7,3)]),([],[]),([5],[(9,5)]),([],[]),([7],[(11,7)]),([6,8],[(10,6),(12,8)]),([4,9],[(8,4),(13,9)]),([10],[(14,10)]),([11],[(15,11)])] 16 ?_
 iterate 4 refine bA.i ?_
 refine bA.is (G J t) (λV W kW hp=>?_) ?_
 ·(try simp only[dE,bU,bZ,dA,dB,bM]at hp)
  simp[dC,bP,aC,hp,eH,aL,bR,bM,B,y,go_sem];apply bN (L.aX W);intro C H;grind
 iterate 4 refine bA.i ?_
 refine bA.is (G J j) (λV W kW hp=>?_) ?_
 ·(try simp only[dE,bU,bZ,dA,dB,bM]at hp)
  simp[dC,bP,aC,hp,eH,aL,bR,bM,B,y,go_sem];apply bN (X.aX W);intro C H;grind
 refine bA.op (λv W=>bw eu [t,j] v W) (λ_ _ _ h k=>cH h k) (λV W kW hp=>?_) ?_
 ·simp only[dE,bU,bZ,dA,dB,bM]at hp;simp[dC,bP,aC,hp,eH,aL,bR,go_sem];exact⟨⟨_,_,rfl,⟨[t,j].map Dp,Hj _ _,(Reads.new W [G J t,G J j] 3 1 2 rfl).more bq⟩,bq⟩,(K.rf W).al _⟩
 refine bA.is (G J Y) (λV W kW hp=>?_) ?_
 ·simp only[dE,bU,bZ,dA,dB,bM]at hp;obtain⟨z,-⟩:=hp;obtain⟨A9,c9,e9⟩:=bD z;simp[dC,bP,aC,z,eH,aL,bR,bM,go_sem];apply bN (O.aX _ W z);intro C H;grind
 refine bA.i ?_
 intro V W kW hA
 simp only[bU,bZ,dx,bM,Nat.reduceAdd]at hA
 refine bJ.h ?_
 have M:=k1.tr kW
 go_wp2
 go_ret
 exact⟨ib,M⟩
section
variable {α:Type} {S:fE α} {Y:Nat->Prop} {base:Nat} {e:TypeId} {l l2:List α} {v:aQ} {w w':aP} {P:Program}
theorem azS t ty z size bytes(T:ir P t e z size bytes)(hsz:S.size=size)(hO:bK Y base e S l v w) u(M:ky (λk=>Y k∨aW v=I k) S l2 u w)
 (N:(Q l+Q l2)*(bytes+1)<=140737488355328) (R:base<=Z (D w)) :
 ∃v' w',(Builtin.append_ #[t,t] ty #[v,u]).run P w=.ok v' w'/\bK Y base e S (l++l2) v' w'/\w.grownBy w' (aW v)/\(aW v'=aW v∨aW v'=I (Z (D w)))/\aN base w w':=by
 subst hsz
 obtain⟨A,c,H,rfl,hc,O,gj,hn,B⟩:=M
 obtain⟨css,L,hcl,hE⟩:=hO
 obtain⟨v',w',V,h2,j,W,h5⟩:=Hx w base t ty e z S.size bytes T v (Q l) css.flatten L (Z (D w)) A (Q l2) c H.flatten O (B w (bf.rf _ _)).ones N R
 refine⟨v',w',V,⟨css++H,bG,bG,λC u=>?_⟩,j,W,h5⟩
 have y:=(bf.gy (X:=λk=>Y k∨aW v=I k) j (λg hg=>aJ hg)).iA u λk hk h=>by
  grind
 exact (hE C y).append (B C y)
theorem Q7{ops rest o a j}(hgd:o.guard=U) s x t
 (ho:o.op=.call { callee:=.builtin .append,args:=#[s,x],argTypes:=#[t,t] })
 z size bytes (T:ir P t e z size bytes) (W:S.size=size) (y:a.eval s=v) (N:bK Y base e S l v w) u (B:a.eval x=u) (C:ky (λk=>Y k∨aW v=I k) S l2 u w)
 (M:(Q l+Q l2)*(bytes+1)<=140737488355328) (H:base<=Z (D w))
 (h:∀v' w',bK Y base e S (l++l2) v' w'->w.grownBy w' (aW v)->(aW v'=aW v∨aW v'=I (Z (D w)))->aN base w w'->wpList P ops j rest (a.put o.dst v') w') :
 wpList P ops j (o :: rest) a w:=by
 refine wpList_plain hgd λK O=>?_
 obtain⟨v',w',V,L,A,R,X⟩:=azS (P:=P) t o.type z size bytes T W N u C M H
 unfold Oper.wp aL
 simp only[ho,resolve,invoke,builtin,Sem.run_bind,Sem.run_pure,Result.andThen_ok,List.map_toArray,lT,List.map_nil,y,B,V]
 exact O _ _ (h v' w' L A R X)
end
theorem axM P(w:aP) T u v(j:v.oneCell'=aA):(store ⟨Z (D w),0,U⟩ v).run P (aU w (aq #[u] T))=.ok () (aU w (aq #[v] T)):=by have hb:=bn.new w T #[u];rw[run_store _ _ _ _ _ j];rw[hb.cell 0,hb.frozen,World.setCell_alloc_new];rfl
theorem axN s v w(h:sub s v w) :
 aK prog 185 #[v] w λe w'=>e=ak (ar aA)/\K w w':=by
 obtain⟨vs,rfl,j⟩:=h
 obtain⟨A,c,rfl⟩:=dK j
 have k1:=K.new w (aq (oK s (F A (Q s.f) c)) 260)
 go_in
 go_wp2
 go_ret
 exact⟨rfl,k1⟩
theorem agz s x v vf ve g gf w(h:sub s v w)(hg:bn w g 128 (bQ x vf ve))(j:bn w gf 268 #[.func (.func 186) #[] #[aj (I ⟨g,0,U⟩)]]) :
 aK prog 190 #[v,aj (I ⟨gf,0,U⟩)] w λe w'=>e=ak (ar (decide (lC s x<0)))/\K w w':=by
 have k1:=λo=>(K.rf w).al o
 have z:=aY λW (k:K w W)=>afP s x v vf ve g W (ani h k) (hg.bF k)
 obtain⟨vs,rfl,t⟩:=h
 obtain⟨A,c,rfl⟩:=dK t
 have hb:=bn.new w 260 (oK s (F A (Q s.f) c))
 replace k1:=k1 (aq (oK s (F A (Q s.f) c)) 260)
 have y:=j.bF k1
 generalize lC s x=R at *
 go_in
 go_upto_region 1 with fail
 generalize w.alloc _=C at *
 have:=hb.cell
 have:=y.cell
 go_wp2_with fail
 apply dP (z.aX C k1) k1
 intro N H B
 go_wp2
 go_ret
 exact⟨cY,B⟩
theorem agA s x v vf ve g gf w(h:sub s v w)(hg:bn w g 128 (bQ x vf ve))(j:bn w gf 268 #[.func (.func 186) #[] #[aj (I ⟨g,0,U⟩)]]) :
 aK prog 191 #[v,aj (I ⟨gf,0,U⟩)] w λe w'=>e=ak (ar (decide (0<lC s x)))/\K w w':=by
 have k1:=λo=>(K.rf w).al o
 have z:=aY λW (k:K w W)=>afP s x v vf ve g W (ani h k) (hg.bF k)
 obtain⟨vs,rfl,t⟩:=h
 obtain⟨A,c,rfl⟩:=dK t
 have hb:=bn.new w 260 (oK s (F A (Q s.f) c))
 replace k1:=k1 (aq (oK s (F A (Q s.f) c)) 260)
 have y:=j.bF k1
 generalize lC s x=R at *
 go_in
 go_upto_region 1 with fail
 generalize w.alloc _=C at *
 have:=hb.cell
 have:=y.cell
 go_wp2_with fail
 apply dP (z.aX C k1) k1
 intro N H B
 go_wp2
 go_ret
 exact⟨cY,B⟩
theorem KE{α S}{l:List α}{v w}(h:bw S l v w):ky (λk=>Z (D w)<=k) S l v w:=by
 obtain⟨A,c,rfl,⟨css,j,t⟩,B⟩:=h
 refine⟨A,c,css,rfl,B,t,j.1,λC y b H e hb=>?_,λW u=>j.st ⟨u.os,u.tape,u.output,u.size,λk hk=>u.block k hk aZ⟩⟩
 have z:0<Q css.flatten:=by rw[j.Gf];exact Nat.mul_pos (List.length_pos_iff.2 C) y
 obtain⟨L,N,O,M,-⟩:=t.2 z
 grind
theorem Kb{l:List nB}{q}(j:∀s∈l,Q s.f<=1000000):∀s∈l.filter q,Q s.f<=1000000:=λs h=>j s (List.mem_filter.1 h).1
theorem afd l x v vx w(h:bw jM l v w)(hx:fc x vx w)(hlen:Q l<=400000)(j:∀s∈l,Q s.f<=1000000)(hxs:Q x.f<=1000000) :
 aK prog 120 #[v,vx] w λe w'=>∃v',e=ak v'/\bK (λk=>k<Z (D w)) (Z (D w)) 260 jM (wS l x) v' w'/\K w w':=by
 have HR:Hid (wS l x=if x.kind=2 then l.filter (λs=>decide (lC s x<0))++[⟨x.cl,x.sub,x.f⟩]++l.filter (λs=>decide (0<lC s x))
  else if x.kind=3 then l.filter (λs=>decide (lC s x<0))++l.filter (λs=>decide (0<lC s x))else l):=aY rfl
 have V:=aY (KE h)
 have HS:=aY j
 obtain⟨vf,ve,rfl,hf,he⟩:=hx
 have HF:=aY λW (k:K w W)=>fJ _ _ _ _ hf k
 obtain⟨Af,cf,rfl⟩:=dK hf
 obtain⟨Ae,ce,rfl⟩:=bD he
 obtain⟨A,c,rfl⟩:=bD h
 have hb:=bn.new w 128 (bQ x (F Af (Q x.f) cf) (F Ae (Q x.es) ce))
 have k1:=hb.cC
 generalize wS l x=R at *
 go_in
 go_upto_region 1 with fail
 generalize w.alloc _=M at *
 have hz1:=k1.size
 generalize oW:Z (D w)=lo at hb V hz1⊢
 have nH:=aY oW
 have qT:=hz1
 have:=hb.cell
 by_cases hk:x.kind=2∨x.kind=3
 rotate_left
 ·have gZ:Hid (R=l):=aY (by rw[HR.aX,bO λh=>hk (aI h),bO λh=>hk (aJ h)]);have hk2:(x.kind != 2)=true:=bG;have lN:(x.kind != 3)=true:=bG;have C1:=aY (Hf (λk=>lo<=k) l _ (λ_=>aA) 185 #[] M (V.aX.st k1) aZ (λ_ _=>cY) λW _ s _ u z=>axN s u W z);go_wp2_with fail
  apply tH C1.aX k1;intro v2 w2 eE k2 B;rw[show l.filter (λ_=>aA)=l by simp]at eE;have C2:=aY (afO _ _ l v2 w2 eE aZ HS.aX);have dt:=eE.blk;obtain⟨A2,c2,rfl⟩:=eE.slice;go_wp2_with fail
  apply bN C2.aX;rintro T⟨dH,u3⟩;have kF:=u3.k B λk hk=>by have:=(dt k hk).1;have:=nH.aX;omega
  have HO:Hid (bK (λk=>k<lo) lo 260 jM R (F A2 (Q l) c2) T):=aY aBi;exact akv
 have H:=bn.new M 268 #[.func (.func 186) #[] #[aj (I ⟨lo,0,U⟩)]]
 have cC:=H.cC
 have:=axM prog M 268 .nilFunc (.func (.func 186) #[] #[aj (I ⟨lo,0,U⟩)]) rfl
 have Y:=hb.bF cC
 have B:=k1.tr cC
 have:=cC.size
 rcases hk with hk|hk
 ·have hk2:(x.kind != 2)=false:=Ig;have lN:(x.kind==2)=true:=Ig;go_upto_region 4 with fail;generalize M.alloc _=w2 at *;generalize GP:Z (D M)=gf at H⊢;have C1:=aY (Hf (λk=>lo<=k) l _ (λs=>decide (lC s x<0)) 190 #[aj (I ⟨gf,0,U⟩)] w2 (V.aX.st B) aZ (λ_ _=>cY) λW k s _ u z=>agz s x u _ _ lo gf W z (Y.bF k) (H.bF k));go_wp2_with fail
  apply dD C1.aX;rintro v3 T⟨dH,y⟩;have dy:=Y.bF y;have aod:=H.bF y;have oT:=B.tr y;have mf:=y.size;obtain⟨A3,c3,rfl⟩:=dH.slice;have dM:=ni (λs=>decide (lC s x<0)) l;have q3:=dy.cell;have kA:=K.new T (aq (oK ⟨x.cl,x.sub,x.f⟩ (F Af (Q x.f) cf)) 260);have fq:=dH.st kA;have dt:=dH.blk;have hr:=fL.new (S:=jM) (e:=260) (x:=⟨x.cl,x.sub,x.f⟩) (v:=av (oK ⟨x.cl,x.sub,x.f⟩ (F Af (Q x.f) cf))) (w:=T) (N:=λk=>lo<=k) (λW u=>⟨_,rfl,HF.aX W (u.k oT λk hk=>Zm)⟩) 0 (eO _);go_wp2_with (at_builtin;refine kI rfl _ _ 205 rfl _ 3 40 Vf rfl rfl fq _ rfl ⟨x.cl,x.sub,x.f⟩ ?p1 ?p2 ?p3 ?_)
  case p1=>exact hr.less λk hk=>by rcases hk with hk|hk;exact hk;have:=dt k hk;omega
  case p2=>omega
  case p3=>exact cI mf kA.size
  intro v5 w5 O sX anR jI;have X:=(y.tr kA).trans jI;have DH:=B.tr X;have aoe:=Y.bF X;have aof:=H.bF X;have tQ:=X.size;obtain⟨t,C⟩:∃t,Hid (t=l.filter (λs=>decide (lC s x<0))++[(⟨x.cl,x.sub,x.f⟩:nB)]):=⟨_,aY rfl⟩;rw[<- C.aX]at O;obtain⟨A5,c5,rfl⟩:=O.slice;have C2:=aY (Hf (λk=>lo<=k) l _ (λs=>decide (0<lC s x)) 191 #[aj (I ⟨gf,0,U⟩)] w5 (V.aX.st DH) aZ (λ_ _=>cY) λW k s _ u z=>agA s x u _ _ lo gf W z (aoe.bF k) (aof.bF k));go_upto_region 7 with fail;go_wp2_with fail
  apply dD C2.aX;rintro v6 w6⟨mo,L⟩;have KY:=O.st L;have aEg:=ni (λs=>decide (0<lC s x)) l;have aog:=O.blk;have T3:=mo.blk;have OC:ky (λk=>False∨aW (F A5 (Q t) c5)=I k) jM (l.filter (λs=>decide (0<lC s x))) v6 w6:=mo.Jw (λk hk=>aI akw) λk hk hx=>by
   grind
  have jh:=KY.less (Y':=λ_=>False) λ_ h=>h.elim
  have BL:=L.size;have Ck:Q t<=400001:=by rw[C.aX,eU];simp;omega
  obtain⟨A6,c6,rfl⟩:=OC.slice;go_wp2_with (at_builtin;refine Q7 rfl _ _ 205 rfl _ 3 40 Vf rfl rfl jh _ rfl OC ?p1 ?p2 ?_)
  case p1=>omega
  case p2=>omega
  intro v8 w8 lr LW aEh sB;have gZ:Hid (R=t++l.filter (λs=>decide (0<lC s x))):=aY (by rw[HR.aX,C.aX,bT hk]);rw[<- gZ.aX]at lr;have Vh:=(X.tr L).trans sB;have yK:=B.tr Vh;have hRl:Q R<=1000000:=akx;have hRs:∀s∈R,Q s.f<=1000000:=by
   rw[gZ.aX,C.aX];intro s j;simp only[De,List.mem_singleton]at j;rcases j with (j|rfl)|j
   ·exact Kb HS.aX s j
   ·exact hxs
   ·exact Kb HS.aX s j
  exact aky
 ·have hk2:(x.kind != 2)=true:=Ig;have lN:(x.kind==2)=false:=Ig;go_upto_region 4 with fail;generalize M.alloc _=w2 at *;generalize GP:Z (D M)=gf at H⊢;have C1:=aY (Hf (λk=>lo<=k) l _ (λs=>decide (lC s x<0)) 190 #[aj (I ⟨gf,0,U⟩)] w2 (V.aX.st B) aZ (λ_ _=>cY) λW k s _ u z=>agz s x u _ _ lo gf W z (Y.bF k) (H.bF k));go_wp2_with fail
  apply dD C1.aX;rintro v3 T⟨dH,y⟩;have dy:=Y.bF y;have aod:=H.bF y;have oT:=B.tr y;have mf:=y.size;obtain⟨t,C⟩:∃t,Hid (t=l.filter (λs=>decide (lC s x<0))):=⟨_,aY rfl⟩;rw[<- C.aX]at dH;obtain⟨A3,c3,rfl⟩:=dH.slice;have dM:=ni (λs=>decide (lC s x<0)) l;have q3:=dy.cell;have DH:=oT;have aog:=dH.blk;have O:=dH;generalize A3=A5 at *;generalize c3=c5 at *;have tQ:=mf;have C2:=aY (Hf (λk=>lo<=k) l _ (λs=>decide (0<lC s x)) 191 #[aj (I ⟨gf,0,U⟩)] T (V.aX.st DH) aZ (λ_ _=>cY) λW k s _ u z=>agA s x u _ _ lo gf W z (dy.bF k) (aod.bF k));go_upto_region 7 with fail;go_wp2_with fail
  apply dD C2.aX;rintro v6 w6⟨mo,L⟩;have KY:=O.st L;have aEg:=ni (λs=>decide (0<lC s x)) l;have T3:=mo.blk;have aoe:=0;have aof:=0;have OC:ky (λk=>False∨aW (F A5 (Q t) c5)=I k) jM (l.filter (λs=>decide (0<lC s x))) v6 w6:=mo.Jw (λk hk=>aI akw) λk hk hx=>by
   grind
  have jh:=KY.less (Y':=λ_=>False) λ_ h=>h.elim
  have BL:=L.size;have Ck:Q t<=400001:=by rw[C.aX];omega
  obtain⟨A6,c6,rfl⟩:=OC.slice;go_wp2_with (at_builtin;refine Q7 rfl _ _ 205 rfl _ 3 40 Vf rfl rfl jh _ rfl OC ?p1 ?p2 ?_)
  case p1=>omega
  case p2=>omega
  intro v8 w8 lr LW aEh sB;have gZ:Hid (R=t++l.filter (λs=>decide (0<lC s x))):=aY (by rw[HR.aX,C.aX,bO (by omega),bT hk]);rw[<- gZ.aX]at lr;have Vh:=(y.tr L).trans sB;have yK:=B.tr Vh;have hRl:Q R<=1000000:=akx;have hRs:∀s∈R,Q s.f<=1000000:=by
   rw[gZ.aX,C.aX];intro s j;rcases List.mem_append.1 j with j|j
   ·exact Kb HS.aX s j
   ·exact Kb HS.aX s j
  exact aky
theorem atv a b w :
 aK prog 340 #[G J a,G J b] w λe w'=>e=ak (G J (kM a b))/\w=w':=by
 by_cases h1:a<b
 ·exact akz
 ·exact akA
theorem atw a b w :
 aK prog 341 #[G J a,G J b] w λe w'=>e=ak (G J (kM a b))/\w=w':=by
 by_cases h1:a<b
 ·exact akz
 ·exact akA
theorem aBj a b:(!(Op.bytesLess a.toList b.toList||a.toList==b.toList))=nY b a:=by simp[aib]
theorem atx a b w :
 aK prog 342 #[aw a,aw b] w λe w'=>e=ak (G J (Br a b))/\w=w':=by
 cases h1:nY a b
 ·have h1':Op.bytesLess a.toList b.toList=false:=h1;cases h2:nY b a
  ·have j:(!(a.toList==b.toList))=false:=akB;have HE:Hid (Br a b=0):=aY (by simp[Br,h1,h2]);go_in;exact tj
  ·have j:(!(a.toList==b.toList))=true:=akB;have HE:Hid (Br a b=1):=aY (by simp[Br,h1,h2]);go_in;exact tj
 ·have h1':Op.bytesLess a.toList b.toList=true:=h1;have HE:Hid (Br a b=-1):=aY (by simp[Br,h1]);go_in;exact tj
theorem afe a b w :
 aK prog 324 #[vv a.1 a.2.1 a.2.2,vv b.1 b.2.1 b.2.2] w λe w'=>e=ak (G J (iE a b))/\aN (Z (D w)) w w':=by
 obtain⟨y,na,A⟩:=a
 obtain⟨j,z,B⟩:=b
 have hb2:aN (Z (D w)) w ((aU w (aq #[G J y,G J na,aw A] 83)).alloc (aq #[G J j,G J z,aw B] 83)):=((ed _ _).alloc (bL _) _).alloc bq _
 have R:=(bn.new w 83 #[G J y,G J na,aw A]).alloc (aq #[G J j,G J z,aw B] 83)
 have O:=bn.new (aU w (aq #[G J y,G J na,aw A] 83)) 83 #[G J j,G J z,aw B]
 have N:Hid (iE (y,na,A) (j,z,B)=if kM y j != 0 then kM y j else if kM na z != 0 then kM na z else Br A B):=aY rfl
 go_in
 go_wp2
 go_step3
 go_wp2_with fail
 go_step3
 generalize hW:((aU w (aq #[G J y,G J na,aw A] 83)).alloc (aq #[G J j,G J z,aw B] 83))=W at *
 have T:=R.cell 0
 have x1:=R.cell 1
 have x2:=R.cell 2
 have V:=O.cell 0
 have X:=O.cell 1
 have y2:=O.cell 2
 simp at T x1 x2 V X y2
 generalize fH:kM y j=C at *
 generalize hr1:kM na z=L at *
 generalize cZ:Br A B=M at *
 have HR0:=aY fH
 have S:=aY hr1
 have Y:=aY cZ
 go_wp2_with fail
 go_loop [5,7] (fun t i=>∃k:Nat,k<=3/\i=G J k/\t=G J 0/\Hid ((1<=k->C=0)/\(2<=k->L=0)/\(3<=k->M=0))) (fun _ i=>3-(aO i).toNat)
 case atStart=>exact⟨0,aZ,rfl,rfl,aY ⟨aZ,aZ,aZ⟩⟩
 case round =>
  obtain⟨k,hk,rfl,rfl,hf⟩:=hrel;rcases (by omega:k=0∨k=1∨k=2∨k=3)with rfl|rfl|rfl|rfl
  ·go_wp2_with fail
   apply bN (atv y j W);rintro w' rfl;rw[HR0.aX];by_cases h0:C=0
   ·have H:(C != 0)=false:=NM;have HH:=aY h0;obtain rfl:=h0;go_wp2;go_round
    case rel=>exact⟨1,aZ,rfl,rfl,aY (by refine⟨?_,?_,?_⟩ <;> first|trivial|(intro _;rfl)|(intro _;exact hf.aX.1 (by omega))|(intro _;exact hf.aX.2.1 (by omega))|omega)⟩
    case measure=>simp[aO]
   ·have H:(C != 0)=true:=NM;have HE:Hid (iE (y,na,A) (j,z,B)=C):=by have:=N.aX;rw[bT H]at this;exact aY this
    exact SI
  ·go_wp2_with fail
   apply bN (atw na z W);rintro w' rfl;rw[S.aX];by_cases h0:L=0
   ·obtain rfl:=h0;go_wp2;go_round
    case rel=>exact⟨2,aZ,rfl,rfl,aY (by refine⟨?_,?_,?_⟩ <;> first|trivial|(intro _;rfl)|(intro _;exact hf.aX.1 (by omega))|(intro _;exact hf.aX.2.1 (by omega))|omega)⟩
    case measure=>simp[aO]
   ·have H:(L != 0)=true:=NM;have HE:Hid (iE (y,na,A) (j,z,B)=L):=by have:=N.aX;rw[bO Zn,bT H]at this;exact aY this
    exact SI
  ·have HE:Hid (iE (y,na,A) (j,z,B)=M):=by have:=N.aX;rw[bO Zn,bO akC]at this;exact aY this
   go_wp2_with fail
   apply bN (atx A B W);rintro w' rfl;rw[Y.aX];by_cases h0:M=0
   ·obtain rfl:=h0;go_wp2;go_round
    case rel=>exact⟨3,aZ,rfl,rfl,aY (by refine⟨?_,?_,?_⟩ <;> first|trivial|(intro _;rfl)|(intro _;exact hf.aX.1 (by omega))|(intro _;exact hf.aX.2.1 (by omega))|omega)⟩
    case measure=>simp[aO]
   ·have H:(M != 0)=true:=NM;exact SI
  ·have HE:Hid (iE (y,na,A) (j,z,B)=0):=by have:=N.aX;rw[bO Zn,bO akC,hf.aX.2.2 aZ]at this;exact aY this
   exact SI
theorem arS a b w :
 aK prog 357 #[aw a,aw b] w λe w'=>e=ak (ar (preB a b))/\w=w':=by
 by_cases j:b.size<=a.size
 ·have t:(b.size:Int)<=a.size:=aZ;have HE:Hid (preB a b=((a.extract 0 b.size).toList==b.toList)):=aY (by simp[preB,j]);go_in;exact tj
 ·have t:¬(b.size:Int)<=a.size:=aZ;have HE:Hid (preB a b=az):=aY (by simp[preB,j]);go_in;exact tj
theorem ar0 a b w :
 aK prog 343 #[aw a,aw b] w λe w'=>e=ak (ar (preB a b))/\w=w':=by
 go_in
 go_wp2_with fail
 apply bN (arS a b w)
 rintro w' rfl
 go_wp2
 go_ret
 exact⟨rfl,rfl⟩
theorem WI a b w :
 aK prog 332 #[vv a.1 a.2.1 a.2.2,vv b.1 b.2.1 b.2.2] w λe w'=>e=ak (ar (lW a b))/\aN (Z (D w)) w w':=by
 obtain⟨z,na,j⟩:=a
 obtain⟨y,A,t⟩:=b
 have hb2:aN (Z (D w)) w ((aU w (aq #[G J z,G J na,aw j] 83)).alloc (aq #[G J y,G J A,aw t] 83)):=((ed _ _).alloc (bL _) _).alloc bq _
 cases h1:(z==2)
 ·have HE:Hid (lW (z,na,j) (y,A,t)=az):=aY (by simp[lW,h1]);go_in;go_wp2;exact SJ
 ·cases h2:(y==2)
  ·have HE:Hid (lW (z,na,j) (y,A,t)=az):=aY (by simp[lW,h2]);go_in;go_wp2;exact SJ
  ·have HE:Hid (lW (z,na,j) (y,A,t)=preB j t):=aY (by simp[lW,h1,h2]);go_in;go_wp2_with fail
   apply bN (ar0 j t _);rintro w' rfl;go_wp2;exact SJ
theorem avR g o w(h:w.cell? ⟨g,0,U⟩=I (G J o)) :
 aK prog 325 #[aj (I ⟨g,0,U⟩)] w λe w'=>e=ak (ar (o==0))/\w=w':=by
 go_in
 go_wp2
 go_ret
 exact⟨rfl,rfl⟩
theorem avS g o w(h:w.cell? ⟨g,0,U⟩=I (G J o)) :
 aK prog 326 #[aj (I ⟨g,0,U⟩)] w λe w'=>e=ak (ar (o != 0))/\w=w':=by
 go_in
 go_wp2
 go_ret
 exact⟨rfl,rfl⟩
theorem avT g o w(h:w.cell? ⟨g,0,U⟩=I (G J o)) :
 aK prog 327 #[aj (I ⟨g,0,U⟩)] w λe w'=>e=ak (ar (decide (o<0)))/\w=w':=by
 go_in
 go_wp2
 go_ret
 exact⟨rfl,rfl⟩
theorem avU g o w(h:w.cell? ⟨g,0,U⟩=I (G J o)) :
 aK prog 328 #[aj (I ⟨g,0,U⟩)] w λe w'=>e=ak (ar (decide (o<=0)))/\w=w':=by
 go_in
 go_wp2
 go_ret
 exact⟨rfl,rfl⟩
theorem avV g o w(h:w.cell? ⟨g,0,U⟩=I (G J o)) :
 aK prog 329 #[aj (I ⟨g,0,U⟩)] w λe w'=>e=ak (ar (decide (0<o)))/\w=w':=by
 go_in
 go_wp2
 go_ret
 exact⟨rfl,rfl⟩
theorem avW g o w(h:w.cell? ⟨g,0,U⟩=I (G J o)) :
 aK prog 330 #[aj (I ⟨g,0,U⟩)] w λe w'=>e=ak (ar (decide (0<=o)))/\w=w':=by
 go_in
 go_wp2
 go_ret
 exact⟨rfl,rfl⟩
theorem avX z gt v(t:eT) w(y:bn w z 83 #[G J v.1,G J v.2.1,aw v.2.2])(j:bn w gt 85 #[aw t.1,G J t.2.1,G J t.2.2.1,G J t.2.2.2.1,aw t.2.2.2.2]) :
 aK prog 331 #[aj (I ⟨z,0,U⟩),aj (I ⟨gt,0,U⟩)] w λe w'=>e=ak (ar (lW v t.2.2))/\aN (Z (D w)) w w':=by
 obtain⟨s,op,k,n,x⟩:=t
 obtain⟨M,vn,vt⟩:=v
 have H:=y.cell 0
 have C:=y.cell 1
 have N:=y.cell 2
 have B:=j.cell 2
 have A:=j.cell 3
 have L:=j.cell 4
 simp at H C N B A L
 go_in
 go_wp2_with fail
 apply bN (WI (M,vn,vt) (k,n,x) _)
 intro O hb
 go_wp2
 go_ret
 exact⟨rfl,hb⟩
theorem ahu t v w :
 aK prog 299 #[tK t,vv v.1 v.2.1 v.2.2] w λe w'=>e=ak (ar (kQ t v))/\aN (Z (D w)) w w':=by
 obtain⟨s,op,k,n,x⟩:=t
 obtain⟨j,vn,vt⟩:=v
 have hq:aN (Z (D w)) w ((aU w (aq #[aw s,G J op,G J k,G J n,aw x] 85)).alloc (aq #[G J j,G J vn,aw vt] 83)):=((ed _ _).alloc (bL _) _).alloc bq _
 have hx:=(bn.new w 85 #[aw s,G J op,G J k,G J n,aw x]).alloc (aq #[G J j,G J vn,aw vt] 83)
 have hy:=bn.new (aU w (aq #[aw s,G J op,G J k,G J n,aw x] 85)) 83 #[G J j,G J vn,aw vt]
 rw[World.size_alloc]at hy
 have hmm:=@run_makeMap prog
 have A:∀W:aP,(zeroValue 22).run prog W=.ok .nilFunc W:=λW=>dz
 go_in
 go_wp2_with fail
 apply bN (afe (j,vn,vt) (k,n,x) _)
 intro y C
 generalize ho:iE (j,vn,vt) (k,n,x)=o at *
 have HT:Hid (kQ (s,op,k,n,x) (j,vn,vt)=(if op==8 then aA else (j==k)&&(if op==1 then o==0 else if op==2 then o != 0 else if op==3 then decide (o<0)else if op==4 then decide (o<=0)
  else if op==5 then decide (0<o)else if op==6 then decide (0<=o)else if op==7 then lW (j,vn,vt) (k,n,x)else az))):=aY (by rw[<- ho];rfl)
 have hlt:Z (D w)+2<=Z (D y):=by have:=C.size;simp at this;omega
 have hx1:=((hx.bF C).alloc (aq #[G J o] 3)).alloc (.map #[] 0)
 have EZ:=((hy.bF C).alloc (aq #[G J o] 3)).alloc (.map #[] 0)
 have hz1:=(bn.new y 3 #[G J o]).alloc (.map #[] 0)
 have C:aN (Z (D w)) w ((aU y (aq #[G J o] 3)).alloc (.map #[] 0)):=((hq.trans (C.mono hq.size)).alloc aZ _).alloc cG _
 have tT:=EN.new (aU y (aq #[G J o] 3))
 simp only[World.size_alloc]at tT
 go_wp2_with (with_reducible refine yT _ rfl (.tmp 13) (.const (G J 1)) (.tmp 14) 229 rfl 3 22 underlying229 underlying3 (Z (D y)+1) _ rfl tT 1 rfl _ rfl rfl ?_)
 intro w2 jf R
 have hb2:=C.trans (mN R aZ C.size)
 have hx2:=hx1.grown R cG
 have hy2:=EZ.grown R cG
 have hz2:=hz1.grown R bq
 go_wp2_with (with_reducible refine yT _ rfl (.tmp 13) (.const (G J 2)) (.tmp 15) 229 rfl 3 22 underlying229 underlying3 (Z (D y)+1) _ rfl jf 2 rfl _ rfl rfl ?_)
 intro w3 gI S
 have dy:=hb2.trans (mN S aZ hb2.size)
 have iH:=hx2.grown S cG
 have tW:=hy2.grown S cG
 have mf:=hz2.grown S bq
 go_wp2_with (with_reducible refine yT _ rfl (.tmp 13) (.const (G J 3)) (.tmp 16) 229 rfl 3 22 underlying229 underlying3 (Z (D y)+1) _ rfl gI 3 rfl _ rfl rfl ?_)
 intro w4 iB V
 have hb4:=dy.trans (mN V aZ dy.size)
 have dV:=iH.grown V cG
 have PB:=tW.grown V cG
 have lq:=mf.grown V bq
 go_wp2_with (with_reducible refine yT _ rfl (.tmp 13) (.const (G J 4)) (.tmp 17) 229 rfl 3 22 underlying229 underlying3 (Z (D y)+1) _ rfl iB 4 rfl _ rfl rfl ?_)
 intro w5 ij T
 have jI:=hb4.trans (mN T aZ hb4.size)
 have gh:=dV.grown T cG
 have hy5:=PB.grown T cG
 have tQ:=lq.grown T bq
 go_wp2_with (with_reducible refine yT _ rfl (.tmp 13) (.const (G J 5)) (.tmp 18) 229 rfl 3 22 underlying229 underlying3 (Z (D y)+1) _ rfl ij 5 rfl _ rfl rfl ?_)
 intro w6 sZ M
 have lQ:=jI.trans (mN M aZ jI.size)
 have lF:=gh.grown M cG
 have hy6:=hy5.grown M cG
 have BL:=tQ.grown M bq
 go_wp2_with (with_reducible refine yT _ rfl (.tmp 13) (.const (G J 6)) (.tmp 19) 229 rfl 3 22 underlying229 underlying3 (Z (D y)+1) _ rfl sZ 6 rfl _ rfl rfl ?_)
 intro w7 I5 O
 have lh:=lQ.trans (mN O aZ lQ.size)
 have sg:=lF.grown O cG
 have hy7:=hy6.grown O cG
 have I0:=BL.grown O bq
 go_wp2_with (with_reducible refine yT _ rfl (.tmp 13) (.const (G J 7)) (.tmp 20) 229 rfl 3 22 underlying229 underlying3 (Z (D y)+1) _ rfl I5 7 rfl _ rfl rfl ?_)
 intro z B N
 have sB:=lh.trans (mN N aZ lh.size)
 have Y:=sg.grown N cG
 have LI:=hy7.grown N cG
 have s8:=I0.grown N bq
 have L:=s8.cell 0
 have x1:=Y.cell 1
 have x2:=Y.cell 2
 have y0:=LI.cell 0
 simp at L x1 x2 y0
 have A:=A z
 by_cases h8:op=8
 ·have X:(op==8)=true:=by simp[h8]
  have HE:Hid (kQ (s,op,k,n,x) (j,vn,vt)=aA):=aY (by rw[HT.aX,X];rfl);exact Ey
 by_cases LX:1<=op/\op<=7
 rotate_left
 ·have X:(op==8)=false:=by simp[h8]
  have H:(Instr.lookup 229 (.map (I (Z (D y)+1))) (G J op) aA).run prog z=.ok (au #[.nilFunc,ar az]) z:=by
   have:=xI underlying229 underlying3 A B op;rw[this];have e:∀i:Int,1<=i->i<=7->(i==op)=false:=λi h1 h2=>cG
   simp[F3,e]
  have HE:Hid (kQ (s,op,k,n,x) (j,vn,vt)=az):=aY (by
   rw[HT.aX,X];have e:∀i:Int,1<=i->i<=7->(op==i)=false:=λi h1 h2=>cG
   simp[e])
  exact Ey
 rcases (by omega:op=1∨op=2∨op=3∨op=4∨op=5∨op=6∨op=7)with rfl|rfl|rfl|rfl|rfl|rfl|rfl
 ·have H:(Instr.lookup 229 (.map (I (Z (D y)+1))) (G J 1) aA).run prog z=.ok (au #[Value.func (Fn.func 325) #[] #[aj (I ⟨Z (D y),0,U⟩)],ar aA]) z :=
   xI underlying229 underlying3 A B 1
  cases hkk:(j==k)
  ·have HE:Hid (kQ (s,1,k,n,x) (j,vn,vt)=az):=aY wQ;exact Ey
  ·have HE:Hid (kQ (s,1,k,n,x) (j,vn,vt)=(o==0)):=aY wQ;go_wp2_with fail
   apply bN (avR (Z (D y)) o z L);exact Ku
 ·have H:(Instr.lookup 229 (.map (I (Z (D y)+1))) (G J 2) aA).run prog z=.ok (au #[Value.func (Fn.func 326) #[] #[aj (I ⟨Z (D y),0,U⟩)],ar aA]) z :=
   xI underlying229 underlying3 A B 2
  cases hkk:(j==k)
  ·have HE:Hid (kQ (s,2,k,n,x) (j,vn,vt)=az):=aY wQ;exact Ey
  ·have HE:Hid (kQ (s,2,k,n,x) (j,vn,vt)=(o != 0)):=aY wQ;go_wp2_with fail
   apply bN (avS (Z (D y)) o z L);exact Ku
 ·have H:(Instr.lookup 229 (.map (I (Z (D y)+1))) (G J 3) aA).run prog z=.ok (au #[Value.func (Fn.func 327) #[] #[aj (I ⟨Z (D y),0,U⟩)],ar aA]) z :=
   xI underlying229 underlying3 A B 3
  cases hkk:(j==k)
  ·have HE:Hid (kQ (s,3,k,n,x) (j,vn,vt)=az):=aY wQ;exact Ey
  ·have HE:Hid (kQ (s,3,k,n,x) (j,vn,vt)=(decide (o<0))):=aY wQ;go_wp2_with fail
   apply bN (avT (Z (D y)) o z L);exact Ku
 ·have H:(Instr.lookup 229 (.map (I (Z (D y)+1))) (G J 4) aA).run prog z=.ok (au #[Value.func (Fn.func 328) #[] #[aj (I ⟨Z (D y),0,U⟩)],ar aA]) z :=
   xI underlying229 underlying3 A B 4
  cases hkk:(j==k)
  ·have HE:Hid (kQ (s,4,k,n,x) (j,vn,vt)=az):=aY wQ;exact Ey
  ·have HE:Hid (kQ (s,4,k,n,x) (j,vn,vt)=(decide (o<=0))):=aY wQ;go_wp2_with fail
   apply bN (avU (Z (D y)) o z L);exact Ku
 ·have H:(Instr.lookup 229 (.map (I (Z (D y)+1))) (G J 5) aA).run prog z=.ok (au #[Value.func (Fn.func 329) #[] #[aj (I ⟨Z (D y),0,U⟩)],ar aA]) z :=
   xI underlying229 underlying3 A B 5
  cases hkk:(j==k)
  ·have HE:Hid (kQ (s,5,k,n,x) (j,vn,vt)=az):=aY wQ;exact Ey
  ·have HE:Hid (kQ (s,5,k,n,x) (j,vn,vt)=(decide (0<o))):=aY wQ;go_wp2_with fail
   apply bN (avV (Z (D y)) o z L);exact Ku
 ·have H:(Instr.lookup 229 (.map (I (Z (D y)+1))) (G J 6) aA).run prog z=.ok (au #[Value.func (Fn.func 330) #[] #[aj (I ⟨Z (D y),0,U⟩)],ar aA]) z :=
   xI underlying229 underlying3 A B 6
  cases hkk:(j==k)
  ·have HE:Hid (kQ (s,6,k,n,x) (j,vn,vt)=az):=aY wQ;exact Ey
  ·have HE:Hid (kQ (s,6,k,n,x) (j,vn,vt)=(decide (0<=o))):=aY wQ;go_wp2_with fail
   apply bN (avW (Z (D y)) o z L);exact Ku
 ·have H:(Instr.lookup 229 (.map (I (Z (D y)+1))) (G J 7) aA).run prog z=.ok (au #[Value.func (Fn.func 331) #[] #[aj (I ⟨Z (D w)+1,0,U⟩),aj (I ⟨Z (D w),0,U⟩)],ar aA]) z :=
   xI underlying229 underlying3 A B 7
  cases hkk:(j==k)
  ·have HE:Hid (kQ (s,7,k,n,x) (j,vn,vt)=az):=aY wQ;exact Ey
  ·have HE:Hid (kQ (s,7,k,n,x) (j,vn,vt)=(lW (j,vn,vt) (k,n,x))):=aY wQ;go_wp2_with fail
   apply bN (avX (Z (D w)+1) (Z (D w)) (j,vn,vt) (s,7,k,n,x) z LI Y);intro w9 cN;have LO:=sB.trans (cN.mono sB.size);go_wp2;go_ret;exact⟨jD,LO⟩
theorem aut x s g w(hg:w.cell? ⟨g,0,U⟩=I (aw s)) :
 aK prog 322 #[aaO x,aj (I ⟨g,0,U⟩)] w λe w'=>e=ak (ar (oN s x))/\aN (Z (D w)) w w':=by
 have:g<Z (D w):=J7 hg
 obtain⟨a,k,n,t⟩:=x
 go_in
 go_wp2
 go_ret
 refine⟨?_,(ed _ _).alloc (bL _) _⟩
 show ak (ar _)=ak (ar _)
 rw[R4];rfl
theorem aep A c(l:List dW) s g w B(T:Reads w B 4 A (Q l) (l.flatMap lV))(z:B<=Z (D w))(hlen:Q l<=1000000)(hg:w.cell? ⟨g,0,U⟩=I (aw s)) r
 (V:(∃k,∃hk:k<Q l,r=(k:Int)/\oN s l[k]=aA/\∀x∈l.take k,oN s x=az)∨(r=-1/\∀x∈l,oN s x=az)) :
 aK prog 323 #[F A (Q l) c,.func (Fn.func 322) #[] #[aj (I ⟨g,0,U⟩)]] w λe w'=>e=ak (G J r)/\aN (Z (D w)) w w':=by
 have M:g<Z (D w):=J7 hg
 have H:=aY V
 have W:=aY T
 go_in
 go_wp2_with fail
 go_loopw [8] (fun i wr=>∃k:Nat,k<=Q l/\i=G J k/\Hid (∀x∈l.take k,oN s x=az)/\aN (Z (D w)) w wr) (fun i _=>Q l-(aO i).toNat)
 case atStart=>exact⟨0,aZ,rfl,aY bq,ed _ _⟩
 case round =>
  obtain⟨k,hk,rfl,hall,hb⟩:=hrel;by_cases hlt:k<Q l
  ·have gJ:(k:Int)<Q l:=aZ;obtain⟨b,y,rfl,t,hcell⟩:=W.aX.IA aZ;obtain⟨Y,R,e2,e3⟩:=hcell k hlt;have d0:=(hb.cell (p:=⟨b,y+k*4,U⟩) (cQ t z)).trans Y;have d1:=(hb.cell (p:=⟨b,y+k*4+1,U⟩) (cQ t z)).trans R;have d2:=(hb.cell (p:=⟨b,y+k*4+2,U⟩) (cQ t z)).trans e2;have d3:=(hb.cell (p:=⟨b,y+k*4+3,U⟩) (cQ t z)).trans e3;have S:=(hb.cell (p:=⟨g,0,U⟩) M).trans hg;have hz:=hb.size;have N:=aY (λh=>ahc l s k hlt h hall.aX);have X:Hid (oN s l[k]=az->∀x∈l.take (k+1),oN s x=az):=ai6;have HK:Hid (oN s l[k]=aA->(k:Int)=r):=by
    refine aY λh=>?_
    rcases H.aX with ⟨j,hj,rfl,h1,h2⟩|⟨_,h1⟩
    ·have:=N.aX h;have:k=j:=by
      rcases Nat.lt_trichotomy k j with C|C|C
      ·have:=h2 l[k] (List.mem_take_iff_getElem.2 ⟨k,aZ,rfl⟩);rw[h]at this;cases this
      ·exact C
      ·exact akD
     rw[this]
    grind
   generalize l[k]=x at *;go_wp2_with fail
   apply bN (aut x s g wr S);intro w2 hb2;have L:=hb.trans (hb2.mono hz);cases hx:oN s x
   ·have O:=aY (X.aX hx);go_wp2;go_roundw
    case rel=>exact⟨k+1,aZ,cU,O,L⟩
    case measure=>simp[aO];omega
   ·have HE:=aY (HK.aX hx);go_wp2;go_ret;exact⟨by rw[<- HE.aX];rfl,L⟩
  ·have gJ:¬(k:Int)<Q l:=aZ;have HE:Hid (r=-1):=by
    refine aY ?_;rcases H.aX with ⟨j,hj,_,h1,_⟩|⟨h,_⟩
    ·exact akD
    ·exact h
   go_wp2;exact Nv
theorem avY A c l s w B(hR:Reads w B 4 A (Q l) (l.flatMap lV))(C:B<=Z (D w))(X:Q l<=1000000) :
 aK prog 298 #[F A (Q l) c,aw s] w λe w'=>e=ak (EI l s)/\aN (Z (D w)) w w':=by
 have I2:aN (Z (D w)) w (aU w (aq #[aw s] 9)):=(ed _ _).alloc (bL _) _
 have t:aN (Z (D w)) w ((aU w (aq #[aw s] 9)).alloc (aq #[G J 0,G J 0,aw { data:=#[] }] 83)):=I2.alloc bq _
 have hx:=(bn.new w 9 #[aw s]).alloc (aq #[G J 0,G J 0,aw { data:=#[] }] 83)
 have hy:=bn.new (aU w (aq #[aw s] 9)) 83 #[G J 0,G J 0,aw { data:=#[] }]
 have hc0:((aU w (aq #[aw s] 9)).alloc (aq #[G J 0,G J 0,aw { data:=#[] }] 83)).cell? ⟨Z (D w),0,U⟩=I (aw s):=hx.cell 0
 have zq:=hR.below t C
 rcases ahd s l with ⟨k,hk,z,h2⟩|z
 ·have W:=ahc l s k hk z h2;have HE:Hid (EI l s=au #[vv l[k].2.1 l[k].2.2.1 l[k].2.2.2,ar aA]):=aY (by simp[EI,W]);have N:=aY (aep A c l s (Z (D w)) _ B zq cG X hc0 (k:Int) (aI ⟨k,hk,rfl,z,h2⟩));obtain⟨b,M,rfl,L,hcell⟩:=hR.IA aZ;obtain⟨e0,Y,e2,e3⟩:=hcell k hk;have:(k:Int)<Q l:=aZ;generalize l[k]=x at *;obtain⟨xs,xk,xn,xt⟩:=x;simp only at e0 Y e2 e3 HE;go_in;go_wp2_with fail
  apply bN N.aX;intro w3 y;have fw:=t.trans (y.mono t.size);have d1:=(fw.cell (p:=⟨b,M+k*4+1,U⟩) (cQ L C)).trans Y;have d2:=(fw.cell (p:=⟨b,M+k*4+2,U⟩) (cQ L C)).trans e2;have d3:=(fw.cell (p:=⟨b,M+k*4+3,U⟩) (cQ L C)).trans e3;have j:=hy.below y bq;have S:=j.frozen 0;have V:=j.frozen 1;have O:=j.frozen 2;have T:=j.cell 0;have R:=j.cell 1;have H:=j.cell 2;simp at S V O T R H;go_wp2;have hz:=((j.cz 0 (G J xk)).cz 1 (G J xn)).cz 2 (aw xt);have g0:=hz.cell 0;have g1:=hz.cell 1;have g2:=hz.cell 2;simp at g0 g1 g2;refine aM (v:=au #[vv xk xn xt,ar aA]) akE rfl ⟨Nu,?_⟩;exact akF
 ·have W:=awJ l s z;have HE:Hid (EI l s=au #[vv 0 0 { data:=#[] },ar az]):=aY (by simp[EI,W]);have N:=aY (aep A c l s (Z (D w)) _ B zq cG X hc0 (-1) (aJ ⟨rfl,z⟩));go_in;go_wp2_with fail
  apply bN N.aX;intro w3 y;have fw:=t.trans (y.mono t.size);have j:=hy.below y bq;have S:=j.frozen 0;have V:=j.frozen 1;have O:=j.frozen 2;have T:=j.cell 0;have R:=j.cell 1;have H:=j.cell 2;simp at S V O T R H;go_wp2;have hz:=((j.cz 0 (G J 0)).cz 1 (G J 0)).cz 2 (aw { data:=#[] });have g0:=hz.cell 0;have g1:=hz.cell 1;have g2:=hz.cell 2;simp at g0 g1 g2;refine aM (v:=au #[vv 0 0 { data:=#[] },ar az]) akE rfl ⟨Nu,?_⟩;exact akF
section
variable {l la lb:List dW} {b:List UInt8} {v va vb:aQ} {w:aP}
theorem ahv s(h:iT l v w)(t:Q l<=1000000):aK prog 298 #[v,aw s] w λe w'=>e=ak (EI l s)/\aN (Z (D w)) w w':=by obtain⟨A,c,rfl,j⟩:=h;exact avY A c l s w _ j (bL _) t
end
theorem auu e s:(∃x:dW,e.find? (oN s)=I x/\EI e s=au #[vv x.2.1 x.2.2.1 x.2.2.2,ar aA])∨(e.find? (oN s)=U/\EI e s=au #[vv 0 0 { data:=#[] },ar az]):=by
 unfold EI
 cases h:e.find? (oN s)with
 | none=>exact aJ ⟨rfl,rfl⟩
 | some x=>exact aI ⟨x,rfl,rfl⟩
theorem auv t e v w(X:iT e v w)(S:Q e<=1000000) :
 aK prog 254 #[tK t,v] w λr w'=>r=ak (ar (sI t e))/\aN (Z (D w)) w w':=by
 obtain⟨s,op,k,n,x⟩:=t
 have L:aN (Z (D w)) w (aU w (aq #[aw s,G J op,G J k,G J n,aw x] 85)):=(ed _ _).alloc (bL _) _
 have V:=bn.new w 85 #[aw s,G J op,G J k,G J n,aw x]
 have R:=nL _ _ _ _ X L
 rcases auu e s with ⟨y,hf,O⟩|⟨hf,O⟩
 ·have N:Hid (∀W,iT e v W->aK prog 298 #[v,aw s] W λr w'=>r=ak (au #[vv y.2.1 y.2.2.1 y.2.2.2,ar aA])/\aN (Z (D W)) W w'):=aY λW h=>by have:=ahv s h S;rwa [O]at this
  have HE:Hid (sI (s,op,k,n,x) e=kQ (s,op,k,n,x) y.2):=aY akG;obtain⟨yn,A,z,j⟩:=y;simp only at N HE;go_in;go_wp2_with fail
  apply bN (N.aX _ R);intro B M;have H:=(V.bF M).alloc (aq #[G J A,G J z,aw j] 83);have C:=L.trans (M.mono L.size);have T:aN (Z (D w)) w (aU B (aq #[G J A,G J z,aw j] 83)):=C.alloc C.size _;have x0:(aU B (aq #[G J A,G J z,aw j] 83)).cell? ⟨Z (D w),0,U⟩=I (aw s):=H.cell 0;have x1:(aU B (aq #[G J A,G J z,aw j] 83)).cell? ⟨Z (D w),1,U⟩=I (G J op):=H.cell 1;have x2:(aU B (aq #[G J A,G J z,aw j] 83)).cell? ⟨Z (D w),2,U⟩=I (G J k):=H.cell 2;have x3:(aU B (aq #[G J A,G J z,aw j] 83)).cell? ⟨Z (D w),3,U⟩=I (G J n):=H.cell 3;have x4:(aU B (aq #[G J A,G J z,aw j] 83)).cell? ⟨Z (D w),4,U⟩=I (aw x):=H.cell 4;go_upto_region 2 with fail;have hn:=bn.new B 83 #[G J A,G J z,aw j];have n0:=hn.cell 0;have n1:=hn.cell 1;have n2:=hn.cell 2;generalize hw2:B.alloc (aq #[G J A,G J z,aw j] 83)=w2 at *;go_wp2_with fail
  apply bN (ahu (s,op,k,n,x) (A,z,j) _);intro w3 Y;go_wp2;go_ret;exact⟨jD,T.trans (Y.mono T.size)⟩
 ·have N:Hid (∀W,iT e v W->aK prog 298 #[v,aw s] W λr w'=>r=ak (au #[vv 0 0 { data:=#[] },ar az])/\aN (Z (D W)) W w'):=aY λW h=>by have:=ahv s h S;rwa [O]at this
  have HE:Hid (sI (s,op,k,n,x) e=az):=aY akG;go_in;go_wp2_with fail
  apply bN (N.aX _ R);intro B M;have C:=L.trans (M.mono L.size);go_wp2;go_ret;exact⟨jD,C.alloc C.size _⟩
theorem aty(l:List eT)(e:List dW)(k:Nat)(h:k<Q l)(ha:∀t∈l.take k,sI t e=aA)(hb:sI l[k] e=aA):∀t∈l.take (k+1),sI t e=true:=aio
theorem auw l e k(h:k<Q l)(hb:sI l[k] e=az):oz l e=false:=by
 grind [sI,oz]
theorem atz l e(h:∀t∈l.take (Q l),sI t e=aA):oz l e=true:=by
 grind [sI,oz]
theorem aeB A c l e v w B(W:Reads w B 5 A (Q l) (l.flatMap gT))(hB:B<=Z (D w))(Ck:Q l<=1000000)(he:iT e v w)(S:Q e<=1000000) :
 aK prog 183 #[F A (Q l) c,v] w λr w'=>r=ak (ar (oz l e))/\aN (Z (D w)) w w':=by
 have HA:=aY W
 have HV:=aY he
 go_in
 go_wp2
 go_step3
 go_wp2_with fail
 go_step3
 go_wp2_with fail
 go_loopw [5,10] (fun m i wr=>∃k:Nat,k<=Q l/\i=G J k/\m=ar aA/\Hid (∀t∈l.take k,sI t e=aA)/\aN (Z (D w)) w wr) (fun _ i _=>Q l-(aO i).toNat)
 case atStart=>exact⟨0,aZ,rfl,rfl,aY bq,ed _ _⟩
 case round =>
  obtain⟨k,hk,rfl,rfl,O,hb⟩:=hrel;by_cases M:k<Q l
  ·have gJ:(k:Int)<Q l:=aZ;obtain⟨b,y,rfl,T,hcell⟩:=HA.aX.KR aZ;obtain⟨e0,V,e2,e3,e4⟩:=hcell k M;have j:=cQ T hB;have d0:=(hb.cell (p:=⟨b,y+k*5,U⟩) j).trans e0;have d1:=(hb.cell (p:=⟨b,y+k*5+1,U⟩) j).trans V;have d2:=(hb.cell (p:=⟨b,y+k*5+2,U⟩) j).trans e2;have d3:=(hb.cell (p:=⟨b,y+k*5+3,U⟩) j).trans e3;have d4:=(hb.cell (p:=⟨b,y+k*5+4,U⟩) j).trans e4;have HT:=aY (aty l e k M O.aX);have Gv:=aY (auw l e k M);have hz:=hb.size;generalize l[k]=x at *;obtain⟨xs,z,H,C,L⟩:=x;simp only at d0 d1 d2 d3 d4;have R:aN (Z (D wr)) wr (aU wr (aq #[aw xs,G J z,G J H,G J C,aw L] 85)):=(ed _ _).alloc (bL _) _;have X:=aY (nL _ _ _ _ (nL _ _ _ _ HV.aX hb) R);go_wp2_with fail
   apply bN (auv (xs,z,H,C,L) e v _ X.aX S);intro w2 hb2;have N:=(hb.trans (R.mono hz)).trans (hb2.mono cG);cases hh:sI (xs,z,H,C,L) e
   ·have HE:=aY (Gv.aX hh);go_wp2;try rw[jt]
    go_ret;exact⟨jD,N⟩
   ·have Y:=aY (HT.aX hh);go_wp2;go_roundw
    case rel=>exact⟨k+1,aZ,cU,Np,Y,N⟩
    case measure=>simp[aO];omega
  ·have gJ:¬(k:Int)<Q l:=aZ;have HE:=aY (atz l e (by
    have:=O.aX;rwa [show k=Q l by omega]at this))
   go_wp2;try rw[jt]
   exact Nv
theorem auy{l e vf ve w}(j:fQ l vf w)(y:Q l<=1000000)(t:iT e ve w)(B:Q e<=1000000) :
 aK prog 183 #[vf,ve] w λr w'=>r=ak (ar (oz l e))/\aN (Z (D w)) w w':=by
 obtain⟨A,c,rfl,z⟩:=j
 exact aeB A c l e ve w _ z (bL _) y t B
theorem avZ l v q(f:Nat) cs w(h:bw jM l v w)(V:Q l<=1000000)(T:∀args W,(callFunc f args).run prog W=.ok (.enter f args) W)
 (O:∀W,K w W->∀x∈l,∀u,sub x u W->aK prog f (#[u]++cs) W λe W'=>e=ak (ar (q x))/\K W W') :
 aK prog 253 #[v,.func (.func f) #[] cs] w λe w'=>∃i:Int,e=ak (G J i)/\K w w'/\decide (0<=i)=l.any q:=by
 have M:=K.rf w
 obtain⟨A,c,rfl,h,-⟩:=h
 have N:=aY O
 go_in
 go_wp2_with fail
 go_loopw [5,8] (fun _ i wr=>∃k:Nat,k<=Q l/\i=G J k/\Hid ((l.take k).any q=az)/\K w wr) (fun _ i _=>Q l-(aO i).toNat)
 case atStart=>exact⟨0,aZ,rfl,aY bq,M⟩
 case round =>
  obtain⟨k,hk,rfl,hall,kr⟩:=hrel;by_cases y:k<Q l
  ·have gJ:(k:Int)<Q l:=aZ;obtain⟨B,z,X,rfl,Y,R,C,d⟩:=eN h k y bC;have HB:=aY (AG q l k y);have HA:=aY (AH q l (k+1));have hm:=dG y;generalize l[k]=t at *;obtain⟨vf,rfl,S⟩:=R wr kr;have C:∀W,K w W->W.cell? ⟨B,z+k*3,U⟩=I (G J t.cl):=C;have d:∀W,K w W->∀i,i<3->W.cell? ⟨B,z+k*3+i,U⟩=(oK t vf)[i]?:=λW j H=>λL=>(d W j H L).trans aD
   have C1:=aY (N.aX wr kr t hm (av (oK t vf)) ⟨vf,rfl,S⟩);exact Zo
  ·exact Zp
theorem auz l v q(f:Nat) cs w(h:bw jM l v w)(B:Q l<=1000000)(t:∀args W,(callFunc f args).run prog W=.ok (.enter f args) W)
 (C:∀W,K w W->∀x∈l,∀u,sub x u W->aK prog f (#[u]++cs) W λe W'=>e=ak (ar (q x))/\K W W') :
 aK prog 181 #[v,.func (.func f) #[] cs] w λe w'=>e=ak (ar (l.any q))/\K w w':=by
 have y:=aY (avZ l v q f cs w h B t C)
 obtain⟨A,c,rfl⟩:=bD h
 generalize l.any q=R at *
 go_in
 go_wp2_with fail
 refine y.aX.mono ?_
 rintro e H⟨i,rfl,j,z⟩
 have HR:=aY z
 go_wp2
 go_ret
 exact⟨Zq,j⟩
theorem axO s c v g w(h:sub s v w)(hg:bn w g 3 #[G J c]) :
 aK prog 177 #[v,aj (I ⟨g,0,U⟩)] w λe w'=>e=ak (ar (decide (s.cl=c)))/\K w w':=by
 obtain⟨vs,rfl,j⟩:=h
 obtain⟨A,d,rfl⟩:=dK j
 have k1:=K.new w (aq (oK s (F A (Q s.f) d)) 260)
 have q:=hg.cells
 go_in
 go_wp2
 go_ret
 refine⟨?_,k1⟩
 show ak (ar _)=ak (ar _)
 rfl
theorem axP s e v ve g w(h:sub s v w)(hg:bn w g 35 #[ve])(t:iT e ve w)(y:Q s.f<=1000000)(z:Q e<=1000000) :
 aK prog 182 #[v,aj (I ⟨g,0,U⟩)] w λr w'=>r=ak (ar (oz s.f e))/\K w w':=by
 obtain⟨vs,rfl,j⟩:=h
 have:=j
 obtain⟨A,d,rfl,C⟩:=j
 have hb:=bn.new w 260 (oK s (F A (Q s.f) d))
 have k1:=hb.cC
 have L:=hg.bF k1
 have B:=aY (aeB A d s.f e ve _ _ (C.below k1 (bL _)) k1.size y (nL _ _ _ _ t k1) z)
 obtain⟨O,S,rfl⟩:=tc t
 generalize oz s.f e=R at *
 go_in
 go_upto_region 1 with fail
 generalize w.alloc _=V at *
 have q:=hb.cell
 have:=L.cell
 go_wp2_with fail
 apply dP B.aX k1
 intro T N H
 go_wp2
 go_ret
 exact⟨rfl,H⟩
theorem axQ l e v ve g w(h:bw jM l v w)(hg:bn w g 205 #[v])(j:iT e ve w)(z:Q l<=1000000)(X:∀s∈l,Q s.f<=1000000)(M:Q e<=1000000) :
 aK prog 180 #[ve,aj (I ⟨g,0,U⟩)] w λr w'=>r=ak (ar (anyS l e))/\K w w':=by
 have HR:Hid (anyS l e=l.any λs=>oz s.f e):=aY rfl
 have V:=aY j
 obtain⟨L,T,rfl⟩:=tc j
 have hb:=bn.new w 35 #[F L (Q e) T]
 have k1:=hb.cC
 have S:=hg.bF k1
 have H:=aY (cH h k1)
 have N:=aY X
 obtain⟨A,c,rfl⟩:=bD h
 generalize anyS l e=R at *
 go_in
 go_upto_region 1 with fail
 generalize w.alloc _=O at *
 generalize Z (D w)=gb at hb⊢
 have t:=aY (auz l _ (λs=>oz s.f e) 182 #[aj (I ⟨gb,0,U⟩)] O H.aX z (λ_ _=>cY) λW k s C u B=>axP s e u _ gb W B (hb.bF k) (nL _ _ _ _ V.aX (k1.tr k)) (N.aX s C) M)
 have:=S.cell
 go_wp2_with fail
 apply dP t.aX k1
 intro w2 k2 y
 go_wp2
 go_ret
 exact⟨ib,y⟩
theorem auA l c x v vx w(h:bw jM l v w)(hx:fc x vx w)(hlen:Q l<=1000000)(hs:∀s∈l,Q s.f<=1000000)(hxs:fX x) :
 aK prog 119 #[v,G J c,vx] w λe w'=>∃v',e=ak v'/\cE (Z (D w)) (Z (D w)) 35 dS (rN l c x) v' w'/\K w w':=by
 have V:Hid (rN l c x=if x.kind=1 then x.es.filter (anyS (l.filter λs=>decide (s.cl=c)))else []):=aY (by unfold rN sS;simp)
 have HL:=aY (KE h)
 have HS:=aY hs
 obtain⟨vf,ve,rfl,hf,j⟩:=hx
 have HE:=aY (KE j)
 obtain⟨B,L,rfl⟩:=dK hf
 obtain⟨H,N,rfl⟩:=bD j
 obtain⟨A,d,rfl⟩:=bD h
 have k1:=K.lK w (aq #[G J c] 3) (aq (bQ x (F B (Q x.f) L) (F H (Q x.es) N)) 128)
 have hb:=(bn.new w 3 #[G J c]).alloc (aq (bQ x (F B (Q x.f) L) (F H (Q x.es) N)) 128)
 have t:=bn.new (aU w (aq #[G J c] 3)) 128 (bQ x (F B (Q x.f) L) (F H (Q x.es) N))
 have hz:Z (D (aU w (aq #[G J c] 3)))=Z (D w)+1:=bq
 rw[hz]at t
 generalize rN l c x=R at *
 go_in
 go_upto_region 1 with fail
 generalize ay (ay w _) _=w1 at *
 have hz1:=k1.size
 generalize oW:Z (D w)=lo at hb t HL HE hz1⊢
 have nH:=aY oW
 have q:=t.cell
 by_cases hk:x.kind=1
 rotate_left
 ·have HF:Hid (R=[]):=aY (by rw[V.aX,bO hk]);have hk2:(x.kind != 1)=true:=vD;go_wp2;go_ret;exact⟨_,rfl,Zr,k1⟩
 have HF:Hid (R=x.es.filter (anyS (l.filter λs=>decide (s.cl=c)))):=aY (by rw[V.aX,bT hk])
 have hk2:(x.kind != 1)=false:=Ig
 have C1:=aY (Hf (λk=>lo<=k) l _ (λs=>decide (s.cl=c)) 177 #[aj (I ⟨lo,0,U⟩)] w1 (HL.aX.st k1) hlen (λ_ _=>cY) λW k s _ u z=>axO s c u lo W z (hb.bF k))
 go_wp2_with fail
 apply dD C1.aX
 rintro v2 y⟨T,k2⟩
 have:=ni (λs=>decide (s.cl=c)) l
 have Gz:=Kb (q:=λs=>decide (s.cl=c)) HS.aX
 generalize l.filter (λs=>decide (s.cl=c))=l2 at *
 obtain⟨A2,c2,rfl⟩:=T.slice
 have jC:=t.bF k2
 have cT:=k1.tr k2
 have gj:=T.bw
 go_upto_region 4 with fail
 have M:=bn.new y 205 #[F A2 (Q l2) c2]
 have O:=M.cC
 have qE:=jC.bF O
 have oT:=cT.tr O
 have H3:=aY (cH gj O)
 generalize y.alloc _=w3 at *
 generalize Z (D y)=g3 at M⊢
 have Ly:=HE.aX.st oT
 have C:=aY hxs
 have C2:=aY (afc (λk=>lo<=k) x.es _ (anyS l2) 180 #[aj (I ⟨g3,0,U⟩)] w3 Ly hxs.2.1 (λ_ _=>cY) λW k e j u z=>axQ l2 e _ u g3 W (cH H3.aX k) (M.bF k) z aZ Gz (C.aX.2.2 e j))
 have:=qE.cell
 go_wp2_with fail
 apply tH C2.aX oT
 intro v4 w4 fq k4 Y
 have:=ni (anyS l2) x.es
 have hs4:∀e∈x.es.filter (anyS l2),Q e<=1000000:=λe j=>C.aX.2.2 e (List.mem_filter.1 j).1
 have S:=fq.bw
 have X:=aY (WH _ v4 w4 S (by have:=C.aX.2.1;omega) hs4)
 rw[<- HF.aX]at X S
 obtain⟨A4,c4,rfl⟩:=bD S
 go_wp2_with fail
 apply tH X.aX Y
 intro v5 w5 fu k5 kF
 have:=Y.size
 have HO:Hid (cE lo lo 35 dS R v5 w5):=aY (cE.low (cE.floor fu Zm) Zm)
 obtain⟨A5,c5,rfl⟩:=bD fu.tR.bw
 go_wp2
 go_ret
 exact⟨_,rfl,by rw[nH.aX];exact HO.aX,kF⟩
theorem fold_succ{α β:Type}(f:β->α->β)(l:List α)(b:β)(j:Nat)(h:j<Q l):(l.take (j+1)).foldl f b=f ((l.take j).foldl f b) l[j]:=by rw[ix h,List.foldl_append];rfl
theorem afQ{α:Type}(f:α->Int):∀l:List α,Q (l.filter λs=>decide (f s<0))+Q (l.filter λs=>decide (0<f s))<=Q l
 | []=>bq
 | x :: l=>by
  have:=afQ f l;by_cases t:f x<0
  ·have j:¬0<f x:=aZ;simp[t,j];omega
  ·by_cases j:0<f x
   ·simp[t,j];omega
   ·simp[t,j];omega
theorem av0 l x:Q (wS l x)<=Q l+1:=by
 have:=afQ (λs=>lC s x) l
 unfold wS
 grind
def EL(l:List nB):Prop:=∀s∈l,Q s.f<=1000000
theorem azT{l x}(h:EL l)(j:Q x.f<=1000000):EL (wS l x):=by
 grind [EL,wS]
def mQ(o:List nB)(x:bW):List nB:=if x.kind=1 then o else wS o x
theorem agB l x:Q (mQ l x)<=Q l+1:=by
 grind [mQ,av0]
theorem akH{l x}(h:EL l)(j:Q x.f<=1000000):EL (mQ l x):=by
 grind [mQ,azT]
theorem SK l:mw l=l.foldl mQ []:=rfl
theorem Xq l:Q (mw l)<=Q l:=by
 rw[SK];have key:∀(l:List bW) (o:List nB),Q (l.foldl mQ o)<=Q o+Q l:=by
  intro l
  induction l with
  | nil=>intro o;simp
  | cons x l j=>intro o;have:=j (mQ o x);have:=agB o x;simp only[List.foldl_cons,fY];omega
 simpa using key l []
theorem akI{l}(h:∀x∈l,fX x):EL (mw l):=by
 rw[SK];have key:∀(l:List bW) (o:List nB),(∀x∈l,fX x)->EL o->EL (l.foldl mQ o):=by
  intro l
  induction l with
  | nil=>intro o _ j;exact j
  | cons x l z=>intro o t j;exact z _ (λy B=>t y bG) (akH j (t x bq).1)
 exact key l [] h λs A=>bG
theorem aff{M p B w}(h:cS M p B w)(O:cX B) n(hn:n<=Q B.st.list) :
 aK prog 118 #[aj (I ⟨p.g,0,U⟩),G J n] w λe w'=>∃v',e=ak v'/\bK (λk=>k<Z (D w)) (Z (D w)) 260 jM (mw (B.st.list.take n)) v' w'/\K w w':=by
 have L:=O.FY
 have:=O.dk.len
 have q:=h.blk.cell
 have X:=h.df.now.list
 obtain⟨g,gl,gd,gr,gt,vd,vr,vp,vh,vl,vq,va,vt,vf,vw,kr⟩:=p
 simp only at q X
 obtain⟨Al,cl,rfl,hl,hcl⟩:=X
 have qF:=aY L.1
 have PJ:=aY (SK (B.st.list.take n))
 have HSJ:=aY λ(j:Nat) (hj:j<n)=>fold_succ mQ B.st.list [] j aZ
 have H:=aY λ(j:Nat)=>Xq (B.st.list.take j)
 have HFJ:=aY λ(j:Nat)=>akI (l:=B.st.list.take j) λx z=>L.1 x (lB z)
 simp only[SK]at H HFJ
 generalize mw (B.st.list.take n)=R at *
 have kk:=K.rf w
 have hO:=bK.nil (λk=>k<Z (D w)) (Z (D w)) 260 jM w
 have:(n:Int)<=cl:=aZ
 go_in
 go_wp2_with fail
 go_loopw [5,7,16] (fun o _ i W=>∃j:Nat,j<=n/\i=G J j/\bK (fun k=>k<Z (D w)) (Z (D w)) 260 jM ((B.st.list.take j).foldl mQ []) o W/\K w W) (fun _ _ i _=>n-(aO i).toNat)
 case atStart=>exact⟨0,aZ,rfl,ic,kk⟩
 case round =>
  obtain⟨j,hj,rfl,hO,kr⟩:=hrel;by_cases hlt:j<n
  ·have cd:(j:Int)<n:=aZ;have S:j<Q B.st.list:=aZ;obtain⟨b1,T,cs,rfl,jU,hrl,d0,d⟩:=eN hl j S bC;have HT:=aY (HSJ.aX j hlt);have sC:=qF.aX _ (dG S);have:=H.aX j;have hFj:=HFJ.aX j;have:Q (B.st.list.take j)<=300000:=cG;generalize B.st.list[j]=x at *;generalize (B.st.list.take j).foldl mQ []=C at *;obtain⟨vf,ve,rfl,V,he⟩:=hrl w (K.rf w);have HE:Hid (∀W,K w W->fc x (av (bQ x vf ve)) W):=aY λW k=>⟨_,_,rfl,fJ _ _ _ _ V k,cH he k⟩
   have q:∀i,i<8->wr.cell? ⟨b1,T+j*8+i,U⟩=(bQ x vf ve)[i]?:=λi hi=>(d wr kr i hi).trans aD
   have:wr.cell? ⟨b1,T+j*8,U⟩=I (G J x.kind):=d0 wr kr;have z:=bn.new wr 128 (bQ x vf ve);have k1:=z.cC;obtain⟨Af,cf,rfl⟩:=dK V;obtain⟨Ae,ce,rfl⟩:=bD he;go_upto_region 5 with fail;generalize wr.alloc _=Y at *;have A:=hO.st k1;have t:=kr.tr k1;have q:=z.cell;obtain⟨Ao,co,rfl⟩:=A.slice;by_cases hk:x.kind=1
   ·have y:Hid ((B.st.list.take (j+1)).foldl mQ []=C):=aY (by rw[HT.aX];unfold mQ;rw[bT hk]);have hk2:(x.kind != 1)=false:=Ig;rw[<- y.aX]at A;go_wp2;go_roundw
    case rel=>exact⟨j+1,aZ,cU,by rw[<- y.aX];exact A,t⟩
    case measure=>simp[aO];omega
   have y:Hid ((B.st.list.take (j+1)).foldl mQ []=wS C x):=aY (by rw[HT.aX];unfold mQ;rw[bO hk]);have hk2:(x.kind != 1)=true:=vD;have C1:=aY (afd C x _ _ Y A.bw (HE.aX Y t) aZ hFj sC.1);go_wp2_with fail
   apply tH C1.aX t;intro v2 w2 eE k2 pI;have hz1:=t.size;have N:bK (λk=>k<Z (D w)) (Z (D w)) 260 jM (wS C x) v2 w2:=(eE.less λk hk=>aZ).low hz1;rw[<- y.aX]at N;go_wp2;go_roundw
   case rel=>exact⟨j+1,aZ,cU,N,pI⟩
   case measure=>simp[aO];omega
  ·have cd:¬(j:Int)<n:=aZ;obtain rfl:j=n:=aZ;rw[<- PJ.aX]at hO;exact Sz
theorem auB x y w d:(Op.equalIn (d+1+1+1) 300 (av (jn x)) (av (jn y))).run prog w=.ok (decide (x=y)) w:=by obtain⟨⟨a,b,c⟩,e⟩:=x;obtain⟨⟨z,A,H⟩,L⟩:=y;simp[jn,go_sem,JZ];by_cases t:a=z <;> by_cases C:b=A <;> by_cases B:c=H <;> by_cases j:e=L <;> simp[t,B,C,j] <;> omega
theorem atA x y w:(binOp .eql 300 (av (jn x)) (av (jn y))).run prog w=.ok (ar (decide (x=y))) w:=by have h:(Op.equal 300 (av (jn x)) (av (jn y))).run prog w=.ok (decide (x=y)) w:=auB x y w 9997;exact akJ
theorem atB l a v w(h:bw qj l v w)(hlen:Q l<=1000000) :
 aK prog 307 #[v,av (jn a)] w λe w'=>∃i:Int,e=ak (G J i)/\K w w'/\decide (0<=i)=l.any λv=>decide (v=a):=by
 obtain⟨aT,d,rfl,hl,-⟩:=h
 have z:=bn.new w 300 (jn a)
 have k1:=z.cC
 go_in
 go_upto_region 1 with fail
 generalize w.alloc _=A at *
 generalize Z (D w)=g at z⊢
 have M:=z.cells
 have S:=K.rf A
 go_wp2_with fail
 go_loopw [5,8] (fun _ i wr=>∃j:Nat,j<=Q l/\i=G J j/\Hid ((l.take j).any (fun v=>decide (v=a))=az)/\K A wr) (fun _ i _=>Q l-(aO i).toNat)
 case atStart=>exact⟨0,aZ,rfl,aY bq,S⟩
 case round =>
  obtain⟨j,hj,rfl,HT,kr⟩:=hrel;by_cases H:j<Q l
  ·have B:(j:Int)<Q l:=aZ;obtain⟨t,y,cs1,rfl,jU,hr1,d0,dd⟩:=eN hl j H bC;have HB:=aY (AG (λv=>decide (v=a)) l j H);have R:=aY (AH (λv=>decide (v=a)) l (j+1));generalize l[j]=x at *;obtain rfl:=hr1 w (K.rf w);have L:=λW (kW:K wr W)=>M W (kr.tr kW)
   have T:∀W,K wr W->W.cell? ⟨t,y+j*4,U⟩=I (G J x.id.1):=λW kW=>d0 W (k1.tr (kr.tr kW))
   have p1:∀W,K wr W->W.cell? ⟨t,y+j*4+1,U⟩=I (G E x.id.2.1):=λW kW=>dd W (k1.tr (kr.tr kW)) 1 bC
   have p2:∀W,K wr W->W.cell? ⟨t,y+j*4+2,U⟩=I (G E x.id.2.2):=λW kW=>dd W (k1.tr (kr.tr kW)) 2 bC
   have p3:∀W,K wr W->W.cell? ⟨t,y+j*4+3,U⟩=I (ar x.yes):=λW kW=>dd W (k1.tr (kr.tr kW)) 3 bC
   go_upto_region 4 with fail;have qs:=aB T (aB p1 (aB p2 (aB p3 (aB L B))));refine eQ 5 ?_;iterate 5 refine bA.i ?_
   intro V W kW hA;simp only[bU,bZ,dx,bM,Nat.reduceAdd]at hA;obtain⟨e0,e1,e2,e3,Y,-⟩:=hA;have X:=atA a x W;refine bJ.pure (ar (decide (a=x))) rfl ?_ ?_
   ·simp[bP,aC,e0,Y,aL,bR];rw[show (eqGuard BinOp.eql 300 (Operand.tmp 11) (Operand.tmp 15) (av (jn a)) (av (jn x))).run prog W=.ok () W from by simp[eqGuard,go_sem]];simp only[Result.andThen_ok,X]
   refine bJ.e ?_;have Ls:=kr.tr kW;have O:decide (a=x)=decide (x=a):=decide_eq_decide.2 eq_comm;rw[O];generalize N:decide (x=a)=q at *;have:=aY N;cases q
   ·have pG:Hid ((l.take (j+1)).any (λv=>decide (v=a))=az):=aY ai5;exact YF
   ·have HR:=aY (R.aX (by rw[HB.aX];simp));go_wp2;go_ret;exact⟨_,rfl,k1.tr Ls,by rw[HR.aX];simp⟩
  ·have B:¬(j:Int)<Q l:=aZ;have HR:=aY (by
    have C:=HT.aX;rw[iw aZ]at C;exact C)
   go_wp2;go_ret;exact⟨_,rfl,k1.tr kr,ib⟩
theorem ar1 l a v w(h:bw qj l v w)(B:Q l<=1000000) :
 aK prog 280 #[v,av (jn a)] w λe w'=>e=ak (ar (l.any λv=>decide (v=a)))/\K w w':=by
 have t:=bn.new w 300 (jn a)
 have k1:=t.cC
 have z:=aY λW (kW:K w W)=>atB l a v W (cH h kW) B
 obtain⟨H,d,rfl⟩:=bD h
 go_in
 go_wp2_with fail
 generalize w.alloc _=C at *
 refine (z.aX C k1).mono ?_
 rintro e L⟨i,rfl,j,A⟩
 have y:=aY A
 go_wp2
 go_ret
 exact⟨by rw[<- y.aX];rfl,k1.tr j⟩
theorem auC m a y v g w(h:nG m v w)(hg:bn w g 42 #[G J a.1,G E a.2.1,G E a.2.2])(V:Q m.dU<=1000000) :
 aK prog 279 #[v,ar y,aj (I ⟨g,0,U⟩)] w λe w'=>e=ak (ar (tD m a y))/\K w w':=by
 have HR:Hid (tD m a y=m.dU.any λv=>decide (v=⟨a,y⟩)):=aY rfl
 obtain⟨v1,v2,v3,v4,v5,v6,rfl,j,N,A,S,W,h6⟩:=h
 have:=aY j
 obtain⟨L,c1,rfl⟩:=bD j
 obtain⟨B,c2,rfl⟩:=bD N
 obtain⟨X,c3,rfl⟩:=bD A
 obtain⟨M,c4,rfl⟩:=bD S
 obtain⟨O,c5,rfl⟩:=bD W
 obtain⟨Y,c6,rfl⟩:=bD h6
 generalize C:mK m (F L (Q m.dU) c1) (F B (Q m.asks) c2) (F X (Q m.entries) c3) (F M (Q m.gu) c4) (F O (Q m.fA) c5) (F Y (Q m.ends) c6)=T
 have hb:=bn.new w 239 T
 have k1:=hb.cC
 subst C
 have H:=hg.bF k1
 have t:=aY (ar1 m.dU ⟨a,y⟩ _ _ (cH j k1) V)
 generalize tD m a y=R at *
 go_in
 go_upto_region 1 with fail
 generalize w.alloc _=w1 at *
 have q:=hb.cell
 have:=H.cell
 go_wp2_with fail
 apply dP t.aX k1
 intro w2 k2 z
 go_wp2
 go_ret
 exact⟨ib,z⟩
theorem afR kids a v w(h:bw Aj kids v w)(hlen:Q kids<=1000000)(hv:∀m∈kids,Q m.dU<=1000000) :
 aK prog 226 #[v,di a] w λe w'=>e=ak (G J (kZ kids a))/\K w w':=by
 have V:Hid (kZ kids a=if kids.any (λk=>tD k a az)then 2 else if kids.all (λk=>tD k a aA)then 1 else 0):=aY rfl
 obtain⟨A,c,rfl,hl,-⟩:=h
 have HV:=aY hv
 have hb:=bn.new w 42 #[G J a.1,G E a.2.1,G E a.2.2]
 have k1:=hb.cC
 generalize kZ kids a=R at *
 go_in
 go_wp2
 go_step3
 generalize w.alloc _=w1 at *
 generalize Z (D w)=ga at hb⊢
 have kk:=K.rf w1
 go_wp2_with fail
 go_step3
 go_wp2_with fail
 go_loopw [6,8,12] (fun o _ i W=>∃j:Nat,j<=Q kids/\i=G J j/\(∃z:Int,o=G J z/\Hid (z=if (kids.take j).all (fun k=>tD k a aA)then 1 else 0))/\Hid ((kids.take j).any (fun k=>tD k a az)=az)/\K w1 W) (fun _ _ i _=>Q kids-(aO i).toNat)
 case atStart=>exact⟨0,aZ,rfl,⟨1,rfl,aY bq⟩,aY bq,kk⟩
 case round =>
  obtain⟨j,hj,rfl,⟨z,rfl,T⟩,HT,kr⟩:=hrel;by_cases t:j<Q kids
  ·have cd:(j:Int)<Q kids:=aZ;obtain⟨b1,o1,cs1,rfl,jU,hr1,d0,dd⟩:=eN hl j t bC;have HB:=aY (AG (λk=>tD k a az) kids j t);have HA:=aY (AH (λk=>tD k a az) kids (j+1));have HL:=aY (JT (λk=>tD k a aA) kids j t);have hmv:=HV.aX _ (dG t);generalize kids[j]=m at *;have S:=k1.tr kr;obtain⟨O,v2,v3,v4,v5,M,rfl,L,g2,g3,g4,g5,X⟩:=hr1 w (K.rf w);have HM:Hid (∀W,K w W->nG m (av (mK m O v2 v3 v4 v5 M)) W):=aY λW k=>⟨_,_,_,_,_,_,rfl,cH L k,cH g2 k,cH g3 k,cH g4 k,cH g5 k,cH X k⟩
   have:∀i,i<8->wr.cell? ⟨b1,o1+j*8+i,U⟩=(mK m O v2 v3 v4 v5 M)[i]?:=λi hi=>(dd wr S i hi).trans aD
   have:wr.cell? ⟨b1,o1+j*8,U⟩=I (G J m.kind):=d0 wr S;obtain⟨A1,c1,rfl⟩:=bD L;obtain⟨A2,c2,rfl⟩:=bD g2;obtain⟨A3,c3,rfl⟩:=bD g3;obtain⟨A4,c4,rfl⟩:=bD g4;obtain⟨A5,c5,rfl⟩:=bD g5;obtain⟨A6,c6,rfl⟩:=bD X;have H:=bn.new wr 239 (mK m (F A1 (Q m.dU) c1) (F A2 (Q m.asks) c2) (F A3 (Q m.entries) c3) (F A4 (Q m.gu) c4) (F A5 (Q m.fA) c5) (F A6 (Q m.ends) c6));have k3:=H.cC;go_upto_region 6 with fail;generalize wr.alloc _=w3 at *;have C:=kr.tr k3;have:=H.cell;have N:=aY λW (k:K w3 W) y=>auC m a y _ ga W (HM.aX W (k1.tr (C.tr k))) (hb.bF (C.tr k)) hmv
   go_wp2_with fail
   apply dP (N.aX w3 (K.rf _) az) C;intro w4 k4 jo;have:=(H.bF k4).cell;cases hb0:tD m a az;rotate_left
   ·have HF:Hid (R=2):=aY (by rw[V.aX,bT (HA.aX (by rw[HB.aX,hb0];simp))]);have kF:=k1.tr jo;go_wp2;rw[jt];exact Ez
   have pG:Hid ((kids.take (j+1)).any (λk=>tD k a az)=az):=aY (by rw[HB.aX,HT.aX,hb0];rfl);go_wp2_with fail
   apply dP (N.aX w4 k4 aA) jo;intro w5 k5 Y;cases cD:tD m a aA
   ·have B:Hid ((0:Int)=if (kids.take (j+1)).all (λk=>tD k a aA)then 1 else 0):=aY (by rw[HL.aX,cD];simp);go_wp2;go_roundw
    case rel=>exact⟨j+1,aZ,cU,⟨0,rfl,B⟩,pG,Y⟩
    case measure=>simp[aO];omega
   ·have B:Hid (z=if (kids.take (j+1)).all (λk=>tD k a aA)then 1 else 0):=aY (by rw[HL.aX,cD,T.aX];simp);go_wp2;go_roundw
    case rel=>exact⟨j+1,aZ,cU,⟨z,rfl,B⟩,pG,Y⟩
    case measure=>simp[aO];omega
  ·have cd:¬(j:Int)<Q kids:=aZ;have HF:Hid (R=z):=aY (by
    have h1:=HT.aX;have h2:=T.aX;rw[iw aZ]at h1 h2;rw[V.aX,h1,h2];rfl)
   have kF:=k1.tr kr;go_wp2;exact Ez
theorem av1 l v q(f:Nat) cs w(h:bw cF l v w)(X:Q l<=1000000)(V:∀args W,(callFunc f args).run prog W=.ok (.enter f args) W)
 (R:∀W,K w W->∀x∈l,∀u,fc x u W->aK prog f (#[u]++cs) W λe W'=>e=ak (ar (q x))/\K W W') :
 aK prog 266 #[v,.func (.func f) #[] cs] w λe w'=>∃i:Int,e=ak (G J i)/\K w w'/\decide (0<=i)=l.any q:=by
 have N:=K.rf w
 obtain⟨A,c,rfl,h,-⟩:=h
 have O:=aY R
 go_in
 go_wp2_with fail
 go_loopw [5,8] (fun _ i wr=>∃k:Nat,k<=Q l/\i=G J k/\Hid ((l.take k).any q=az)/\K w wr) (fun _ i _=>Q l-(aO i).toNat)
 case atStart=>exact⟨0,aZ,rfl,aY bq,N⟩
 case round =>
  obtain⟨k,hk,rfl,hall,kr⟩:=hrel;by_cases y:k<Q l
  ·have gJ:(k:Int)<Q l:=aZ;obtain⟨B,z,Y,rfl,hcl,S,C,d⟩:=eN h k y bC;have HB:=aY (AG q l k y);have HA:=aY (AH q l (k+1));have hm:=dG y;generalize l[k]=t at *;obtain⟨vf,ve,rfl,T,L⟩:=S wr kr;have C:∀W,K w W->W.cell? ⟨B,z+k*8,U⟩=I (G J t.kind):=C;have d:∀W,K w W->∀i,i<8->W.cell? ⟨B,z+k*8+i,U⟩=(bQ t vf ve)[i]?:=λW j H=>λM=>(d W j H M).trans aD
   have C1:=aY (O.aX wr kr t hm (av (bQ t vf ve)) ⟨vf,ve,rfl,T,L⟩);exact Zo
  ·exact Zp
theorem Q8 l v q(f:Nat) cs w(h:bw cF l v w)(B:Q l<=1000000)(t:∀args W,(callFunc f args).run prog W=.ok (.enter f args) W)
 (C:∀W,K w W->∀x∈l,∀u,fc x u W->aK prog f (#[u]++cs) W λe W'=>e=ak (ar (q x))/\K W W') :
 aK prog 217 #[v,.func (.func f) #[] cs] w λe w'=>e=ak (ar (l.any q))/\K w w':=by
 have y:=aY (av1 l v q f cs w h B t C)
 obtain⟨A,c,rfl⟩:=bD h
 generalize l.any q=R at *
 go_in
 go_wp2_with fail
 refine y.aX.mono ?_
 rintro e H⟨i,rfl,j,z⟩
 have HR:=aY z
 go_wp2
 go_ret
 exact⟨Zq,j⟩
theorem atC x a v g w(h:fc x v w)(hg:bn w g 42 #[G J a.1,G E a.2.1,G E a.2.2]) :
 aK prog 306 #[v,aj (I ⟨g,0,U⟩)] w λe w'=>e=ak (ar (ju a x))/\K w w':=by
 obtain⟨vf,ve,rfl,B,y⟩:=h
 obtain⟨A,c,rfl⟩:=dK B
 obtain⟨H,d,rfl⟩:=bD y
 have j:=aY (MZ a x)
 have q:=hg.cells
 have:=λo=>(K.rf w).al o
 obtain⟨C,z,t⟩:=a
 obtain⟨k,b,l,s,cl,u,f,es⟩:=x
 simp only at q j⊢
 generalize ju (C,z,t) ⟨k,b,l,s,cl,u,f,es⟩=R at *
 go_in
 go_wp2
 all_goals
  go_ret
  refine⟨?_,(K.rf w).al _⟩
  rw[j.aX]
  show ak (ar _)=ak (ar _)
  first|(simp_all;done)|(simp_all;omega)|(congr 2;rw[Bool.eq_iff_iff];simp_all;omega)
theorem asN x a v g w(h:fc x v w)(hg:bn w g 42 #[G J a.1,G E a.2.1,G E a.2.2]) :
 aK prog 316 #[v,aj (I ⟨g,0,U⟩)] w λe w'=>e=ak (ar (ju a x))/\K w w':=by
 obtain⟨vf,ve,rfl,B,y⟩:=h
 obtain⟨A,c,rfl⟩:=dK B
 obtain⟨H,d,rfl⟩:=bD y
 have j:=aY (MZ a x)
 have q:=hg.cells
 have:=λo=>(K.rf w).al o
 obtain⟨C,z,t⟩:=a
 obtain⟨k,b,l,s,cl,u,f,es⟩:=x
 simp only at q j⊢
 generalize ju (C,z,t) ⟨k,b,l,s,cl,u,f,es⟩=R at *
 go_in
 go_wp2
 all_goals
  go_ret
  refine⟨?_,(K.rf w).al _⟩
  rw[j.aX]
  show ak (ar _)=ak (ar _)
  first|(simp_all;done)|(simp_all;omega)|(congr 2;rw[Bool.eq_iff_iff];simp_all;omega)
theorem av2 x y v L H g w(h:fc x v w)(hg:bn w g 128 (bQ y L H)) :
 aK prog 230 #[v,aj (I ⟨g,0,U⟩)] w λe w'=>e=ak (ar (ju (bB y) x))/\K w w':=by
 obtain⟨vf,ve,rfl,C,B⟩:=h
 obtain⟨A,c,rfl⟩:=dK C
 obtain⟨T,d,rfl⟩:=bD B
 have j:Hid (ju (bB y) x=(decide (x.br=y.br)&&decide (x.life=y.life)&&decide (x.dN=y.dN))):=aY (MZ (y.br,y.life,y.dN) x)
 have q:=hg.cells
 have:=λo=>(K.rf w).al o
 generalize ju (bB y) x=R at *
 obtain⟨W,V,t,z,M,N,O,yes⟩:=y
 obtain⟨k,b,l,s,cl,u,f,es⟩:=x
 simp only at q j⊢
 go_in
 go_wp2
 all_goals
  go_ret
  refine⟨?_,(K.rf w).al _⟩
  rw[j.aX]
  show ak (ar _)=ak (ar _)
  rw[show decide (l=t)=decide ((l:Int)=t)from decide_eq_decide.2 aZ,show decide (s=z)=decide ((s:Int)=z)from decide_eq_decide.2 aZ]
  simp[*]
theorem auD x y v L H g w(h:fc x v w)(hg:bn w g 128 (bQ y L H)) :
 aK prog 218 #[v,aj (I ⟨g,0,U⟩)] w λe w'=>e=ak (ar (ju (bB y) x))/\K w w':=by
 obtain⟨vf,ve,rfl,C,B⟩:=h
 obtain⟨A,c,rfl⟩:=dK C
 obtain⟨T,d,rfl⟩:=bD B
 have j:Hid (ju (bB y) x=(decide (x.br=y.br)&&decide (x.life=y.life)&&decide (x.dN=y.dN))):=aY (MZ (y.br,y.life,y.dN) x)
 have q:=hg.cells
 have:=λo=>(K.rf w).al o
 generalize ju (bB y) x=R at *
 obtain⟨W,V,t,z,M,N,O,yes⟩:=y
 obtain⟨k,b,l,s,cl,u,f,es⟩:=x
 simp only at q j⊢
 go_in
 go_wp2
 all_goals
  go_ret
  refine⟨?_,(K.rf w).al _⟩
  rw[j.aX]
  show ak (ar _)=ak (ar _)
  rw[show decide (l=t)=decide ((l:Int)=t)from decide_eq_decide.2 aZ,show decide (s=z)=decide ((s:Int)=z)from decide_eq_decide.2 aZ]
  simp[*]
theorem afg l a v w(h:bw cF l v w)(B:Q l<=1000000) :
 aK prog 268 #[v,di a] w λe w'=>e=ak (ar (dI l a))/\K w w':=by
 have hb:=bn.new w 42 #[G J a.1,G E a.2.1,G E a.2.2]
 have k1:=hb.cC
 have HR:Hid (dI l a=l.any (ju a)):=aY rfl
 have H:=aY h
 obtain⟨A,c,rfl⟩:=bD h
 generalize dI l a=R at *
 go_in
 go_upto_region 1 with fail
 generalize w.alloc _=C at *
 generalize Z (D w)=j at hb⊢
 have t:=aY (Q8 l _ (ju a) 306 #[aj (I ⟨j,0,U⟩)] C (cH H.aX k1) B (λ_ _=>cY) (λW k x _ u z=>atC x a u j W z (hb.bF k)))
 go_wp2_with fail
 apply dP t.aX k1
 intro M L y
 go_wp2
 go_ret
 exact⟨ib,y⟩
theorem aeR l a v w(h:bw cF l v w)(B:Q l<=1000000) :
 aK prog 291 #[v,di a] w λe w'=>e=ak (ar (dI l a))/\K w w':=by
 have hb:=bn.new w 42 #[G J a.1,G E a.2.1,G E a.2.2]
 have k1:=hb.cC
 have HR:Hid (dI l a=l.any (ju a)):=aY rfl
 have H:=aY h
 obtain⟨A,c,rfl⟩:=bD h
 generalize dI l a=R at *
 go_in
 go_upto_region 1 with fail
 generalize w.alloc _=C at *
 generalize Z (D w)=j at hb⊢
 have t:=aY (Q8 l _ (ju a) 316 #[aj (I ⟨j,0,U⟩)] C (cH H.aX k1) B (λ_ _=>cY) (λW k x _ u z=>asN x a u j W z (hb.bF k)))
 go_wp2_with fail
 apply dP t.aX k1
 intro M L y
 go_wp2
 go_ret
 exact⟨ib,y⟩
def OD{α:Type}(Y:Nat->Prop)(base:Nat)(T e:TypeId)(S:fE α)(l:List α)(j:aQ)(t:Nat)(w w':aP):Prop :=
 ∃v',bn w' t T #[v']/\bK Y base e S l v' w'/\(∀k,aW v'=I k->aW j=I k∨Z (D w)<=k)/\bf (λk=>k=t∨aW j=I k) w w'
theorem av3 Y base o B j x v w(h:fc x v w)(hs:fX x)(hb:bn w j 59 #[B])(C:bK Y base 128 cF o B w)(hY:∀k,Y k->k<Z (D w))(JA:Y j)(hbase:base<=Z (D w))(fS:j<base)(hlen:Q o<=1000000) :
 aK prog 270 #[v,aj (I ⟨j,0,U⟩)] w λe w'=>e=ak (au #[])/\OD Y base 59 128 cF (o++[x]) B j w w':=by
 have zF:=aY func270
 have zN:=aY ntmps270
 have HE:=aY λW (k:K w W)=>N5 h k
 obtain⟨vf,ve,rfl,hf,he⟩:=h
 obtain⟨Af,cf,rfl⟩:=dK hf
 obtain⟨Ae,ce,rfl⟩:=bD he
 have T:=bn.new w 128 (bQ x (F Af (Q x.f) cf) (F Ae (Q x.es) ce))
 have k1:=T.cC
 obtain⟨z,A,rfl⟩:=C.slice
 have L:=hb.bF k1
 have ia:=C.st k1
 have:=C.blk
 go_enter zF.aX,zN.aX
 go_upto_region 1 with fail
 generalize w.alloc _=O at *
 have qx:=T.cells
 have qo:=L.cells
 have qs:=aB qx qo
 refine eQ 4 ?_
 iterate 2 refine bA.i ?_
 refine bA.op (OA (Z (D O)) x) (Zg _ _) (λV W kW hp=>?_) ?_
 ·(try simp only[dE,bU,bZ,dA,dB,bM]at hp)
  exact akK
 refine bA.row (N:=λk=>k<Z (D O)) (S:=cF) 59 _ 8 96 rz rfl bC _ x rfl rfl (λV W kW hp=>?_) ?_
 ·exact Zh
 intro V W kW hA
 simp only[bU,bZ,dx,bM,Nat.reduceAdd]at hA
 obtain⟨e0,e1,h2,h3,-⟩:=hA
 have zX:=ia.st kW
 have hz1:=k1.size
 refine bJ.push _ _ 59 _ 8 96 rz rfl rfl rfl _ o x ic zX ?_ aZ (cI hbase (cI hz1 kW.size)) ?_
 ·exact akL
 intro t R cR M fO cN
 obtain⟨H,LY⟩:∃H,Hid (H=o++[x]):=⟨_,aY rfl⟩
 rw[<- LY.aX]at cR
 have mL:=L.bF kW
 have y:=mL.grown M bG
 have q9:=y.cell
 have z9:=y.frozen
 have:t.oneCell'=true:=akM
 have HU:=aY ((bf.bS (k1.tr kW) _).tr ((bf.gy (X:=λk=>k=j∨aW (F z (Q o) A)=I k) M λk e=>aJ e).tr (bf.dc (X:=λk=>k=j∨aW (F z (Q o) A)=I k) (aI rfl) 0 t)))
 have HB:Hid (bn (aV R ⟨j,0,U⟩ t) j 59 #[t]):=aY (y.cz 0 t)
 have Cd:=aY (cR.to (X:=λk=>k=j) (bf.dc (X:=λk=>k=j) rfl 0 t) (λk hk=>SL) (λk hk e=>Zt) λk _ hk=>aI hk)
 have s7:Hid (∀k,aW t=I k->aW (F z (Q o) A)=I k∨Z (D w)<=k):=aY λk hk=>by exact akN
 obtain⟨A9,c9,rfl⟩:=cR.slice
 refine bJ.skip (aV R ⟨j,0,U⟩ (F A9 (Q H) c9)) rfl akO ?_
 refine bJ.nil ?_
 simp only[iu,Act.put,ue,tC,tB,Nat.reduceAdd,cK,Nat.reduceEqDiff,reduceIte]
 go_wp2
 go_end0
 exact⟨rfl,_,HB.aX,Zu,s7.aX,HU.aX⟩
theorem av4 Y base o B j x v w(h:fc x v w)(hs:fX x)(hb:bn w j 59 #[B])(C:bK Y base 128 cF o B w)(hY:∀k,Y k->k<Z (D w))(JA:Y j)(hbase:base<=Z (D w))(fS:j<base)(hlen:Q o<=1000000) :
 aK prog 271 #[v,aj (I ⟨j,0,U⟩)] w λe w'=>e=ak (au #[])/\OD Y base 59 128 cF (o++[x]) B j w w':=by
 have zF:=aY func271
 have zN:=aY ntmps271
 have HE:=aY λW (k:K w W)=>N5 h k
 obtain⟨vf,ve,rfl,hf,he⟩:=h
 obtain⟨Af,cf,rfl⟩:=dK hf
 obtain⟨Ae,ce,rfl⟩:=bD he
 have T:=bn.new w 128 (bQ x (F Af (Q x.f) cf) (F Ae (Q x.es) ce))
 have k1:=T.cC
 obtain⟨z,A,rfl⟩:=C.slice
 have L:=hb.bF k1
 have ia:=C.st k1
 have:=C.blk
 go_enter zF.aX,zN.aX
 go_upto_region 1 with fail
 generalize w.alloc _=O at *
 have qx:=T.cells
 have qo:=L.cells
 have qs:=aB qx qo
 refine eQ 4 ?_
 iterate 2 refine bA.i ?_
 refine bA.op (OA (Z (D O)) x) (Zg _ _) (λV W kW hp=>?_) ?_
 ·(try simp only[dE,bU,bZ,dA,dB,bM]at hp)
  exact akK
 refine bA.row (N:=λk=>k<Z (D O)) (S:=cF) 59 _ 8 96 rz rfl bC _ x rfl rfl (λV W kW hp=>?_) ?_
 ·exact Zh
 intro V W kW hA
 simp only[bU,bZ,dx,bM,Nat.reduceAdd]at hA
 obtain⟨e0,e1,h2,h3,-⟩:=hA
 have zX:=ia.st kW
 have hz1:=k1.size
 refine bJ.push _ _ 59 _ 8 96 rz rfl rfl rfl _ o x ic zX ?_ aZ (cI hbase (cI hz1 kW.size)) ?_
 ·exact akL
 intro t R cR M fO cN
 obtain⟨H,LY⟩:∃H,Hid (H=o++[x]):=⟨_,aY rfl⟩
 rw[<- LY.aX]at cR
 have mL:=L.bF kW
 have y:=mL.grown M bG
 have q9:=y.cell
 have z9:=y.frozen
 have:t.oneCell'=true:=akM
 have HU:=aY ((bf.bS (k1.tr kW) _).tr ((bf.gy (X:=λk=>k=j∨aW (F z (Q o) A)=I k) M λk e=>aJ e).tr (bf.dc (X:=λk=>k=j∨aW (F z (Q o) A)=I k) (aI rfl) 0 t)))
 have HB:Hid (bn (aV R ⟨j,0,U⟩ t) j 59 #[t]):=aY (y.cz 0 t)
 have Cd:=aY (cR.to (X:=λk=>k=j) (bf.dc (X:=λk=>k=j) rfl 0 t) (λk hk=>SL) (λk hk e=>Zt) λk _ hk=>aI hk)
 have s7:Hid (∀k,aW t=I k->aW (F z (Q o) A)=I k∨Z (D w)<=k):=aY λk hk=>by exact akN
 obtain⟨A9,c9,rfl⟩:=cR.slice
 refine bJ.skip (aV R ⟨j,0,U⟩ (F A9 (Q H) c9)) rfl akO ?_
 refine bJ.nil ?_
 simp only[iu,Act.put,ue,tC,tB,Nat.reduceAdd,cK,Nat.reduceEqDiff,reduceIte]
 go_wp2
 go_end0
 exact⟨rfl,_,HB.aX,Zu,s7.aX,HU.aX⟩
theorem av5 Y base o H j x v w(h:fc x v w)(hb:bn w j 53 #[H])(L:bK Y base 42 dJ o H w)(JA:Y j)(hbase:base<=Z (D w))(fS:j<base)(hlen:Q o<=1000000) :
 aK prog 272 #[v,aj (I ⟨j,0,U⟩)] w λe w'=>e=ak (au #[])/\OD Y base 53 42 dJ (o++[bB x]) H j w w':=by
 obtain⟨vf,ve,rfl,hf,he⟩:=h
 obtain⟨Af,cf,rfl⟩:=dK hf
 obtain⟨Ae,ce,rfl⟩:=bD he
 have T:=bn.new w 128 (bQ x (F Af (Q x.f) cf) (F Ae (Q x.es) ce))
 have k1:=T.cC
 obtain⟨y,z,rfl⟩:=L.slice
 have M:=hb.bF k1
 have ia:=L.st k1
 have:=L.blk
 go_in
 go_upto_region 1 with fail
 generalize w.alloc _=R at *
 have hz1:=k1.size
 have:=T.cell
 have:=M.cell
 have A:=K.new R (aq (dZ (bB x)) 42)
 have eE:=ia.st A
 have hr:=fL.new (S:=dJ) (e:=42) (x:=bB x) (v:=av (dZ (bB x))) (w:=R) (N:=λk=>Y k∨aW (F y (Q o) z)=I k) (λW u=>rfl) 0 (eO _)
 go_wp2_with (at_builtin;refine kI rfl _ _ 53 rfl _ 3 24 wg rfl rfl eE _ rfl (bB x) ?p1 ?p2 ?p3 ?_)
 case p1=>exact hr.less λk hk=>hk
 case p2=>omega
 case p3=>exact cI hbase (cI hz1 A.size)
 intro t w9 C O fO cN
 obtain⟨V,LY⟩:∃V,Hid (V=o++[bB x]):=⟨_,aY rfl⟩
 rw[<- LY.aX]at C
 have mL:=M.bF A
 have B:=mL.grown O bG
 have:=B.cell
 have:=B.frozen
 have HU:=aY ((bf.bS (k1.tr A) _).tr ((bf.gy (X:=λk=>k=j∨aW (F y (Q o) z)=I k) O λk e=>aJ e).tr (bf.dc (X:=λk=>k=j∨aW (F y (Q o) z)=I k) (aI rfl) 0 t)))
 have HB:Hid (bn (aV w9 ⟨j,0,U⟩ t) j 53 #[t]):=aY (B.cz 0 t)
 have Cd:=aY (C.to (X:=λk=>k=j) (bf.dc (X:=λk=>k=j) rfl 0 t) (λk hk=>SL) (λk hk e=>bG) λk _ hk=>aI hk)
 have s7:Hid (∀k,aW t=I k->aW (F y (Q o) z)=I k∨Z (D w)<=k):=aY λk hk=>by
  grind
 obtain⟨A9,c9,rfl⟩:=C.slice
 go_wp2
 go_end0
 exact⟨rfl,_,HB.aX,Zu,s7.aX,HU.aX⟩
theorem azU s op:∀(l:List mX) (o:List cB),Q o<=16->Q (l.foldl (nr s op) o)<=16:=by
 intro l
 induction l with
 | nil=>intro o h;exact h
 | cons x l j =>
  grind [nr]
theorem axR s op:∀(l:List mX) (o:List cB),16<=Q o->l.foldl (nr s op) o=o:=by
 intro l
 induction l with
 | nil=>intro o h;rfl
 | cons x l j =>
  grind [nr]
theorem av6 s op k vl vp H X vk w(hs:pF s (av (dY s vl vp H)) w)(ho:bw cF op X w)(hk:nG k vk w)
 (ko:Q s.list<=1000000/\Q s.prom<=1000000) (hlo:Q op<=1000000) (hv:Q k.dU<=1000000) :
 aK prog 238 #[av (dY s vl vp H),X,vk] w λe w'=>∃v',e=ak v'/\bK (λk=>k<Z (D w)) (Z (D w)) 42 dJ (wW s op k) v' w'/\K w w':=by
 have oX:=aY λW (k:K w W)=>N6 hs k
 have CH:=aY λW (k:K w W) a=>FH s a (av (dY s vl vp H)) W (oX.aX W k) ko.1
 have CP:=aY λW (k:K w W) a=>Mv s a (av (dY s vl vp H)) W (oX.aX W k) ko.2
 have CO:=aY λW (k:K w W) a=>aeR op a X W (cH ho k) hlo
 have HE:Hid (wW s op k=k.dU.foldl (nr s op) []):=aY rfl
 have BC:=aY λj=>azU s op (k.dU.take j) [] bq
 have aaH:=aY λj (h:16<=Q ((k.dU.take j).foldl (nr s op) []))=>axR s op (k.dU.drop j) _ h
 obtain⟨Lq,Lr,vb',e,h1,h2,h3⟩:=hs
 simp at e
 obtain⟨rfl,rfl,rfl⟩:=e
 obtain⟨Al,cl,rfl⟩:=bD h1
 obtain⟨Ap,cp,rfl⟩:=bD h2
 obtain⟨Ab,cb,rfl⟩:=bD h3
 obtain⟨Ao,co,rfl⟩:=bD ho
 obtain⟨v1,v2,v3,v4,v5,v6,rfl,g1,g2,g3,g4,g5,g6⟩:=hk
 obtain⟨A1,c1,rfl,hl,-⟩:=g1
 obtain⟨A2,c2,rfl⟩:=bD g2
 obtain⟨A3,c3,rfl⟩:=bD g3
 obtain⟨A4,c4,rfl⟩:=bD g4
 obtain⟨A5,c5,rfl⟩:=bD g5
 obtain⟨A6,c6,rfl⟩:=bD g6
 generalize wW s op k=R at *
 generalize PK:dY s (F Al (Q s.list) cl) (F Ap (Q s.prom) cp) (F Ab (Q s.ab) cb)=C at *
 generalize hma:mK k (F A1 (Q k.dU) c1) (F A2 (Q k.asks) c2) (F A3 (Q k.entries) c3) (F A4 (Q k.gu) c4) (F A5 (Q k.fA) c5) (F A6 (Q k.ends) c6)=ma at *
 have k1:=K.lK w (aq C 61) (aq ma 239)
 have hb:=(bn.new w 61 C).alloc (aq ma 239)
 have M:=bn.new (aU w (aq C 61)) 239 ma
 have hz:Z (D (aU w (aq C 61)))=Z (D w)+1:=bq
 rw[hz]at M
 subst PK hma
 clear h1 h2 h3 ho g2 g3 g4 g5 g6 oX hz
 go_in
 go_wp2
 go_step3
 generalize ay (ay w _) _=A at *
 generalize oW:Z (D w)=lo at hb M⊢
 have nH:=aY oW
 have hz1:lo<=Z (D A):=by rw[<- oW];exact k1.size
 clear oW
 have kk:=K.rf A
 have:=hb.cells
 have:=M.cells A kk
 have jK:=bK.nil (λk=>k<lo) (Z (D A)) 42 dJ A
 clear hb M
 go_wp2_with fail
 go_step3
 go_wp2_with fail
 go_loopw [7,9,13] (fun o _ i W=>∃j:Nat,j<=Q k.dU/\i=G J j/\bK (fun k=>k<lo) (Z (D A)) 42 dJ ((k.dU.take j).foldl (nr s op) []) o W/\K A W) (fun _ _ i _=>Q k.dU-(aO i).toNat)
 case atStart=>exact⟨0,aZ,rfl,jK,kk⟩
 case round =>
  clear jK kk;obtain⟨j,hj,rfl,B,kr⟩:=hrel;have hpl:=BC.aX j;by_cases hlt:j<Q k.dU
  ·have cd:(j:Int)<Q k.dU:=aZ;obtain⟨b1,o1,cs1,rfl,jU,hr1,d0,dd⟩:=eN hl j hlt bC;have HF:=aY (fold_succ (nr s op) k.dU [] j hlt);have PL:=aY (aaH.aX j);have PM:=aY (show k.dU.foldl (nr s op) []=(k.dU.drop j).foldl (nr s op) ((k.dU.take j).foldl (nr s op) []) by rw[<- List.foldl_append,List.take_append_drop]);generalize k.dU[j]=x at *;generalize (k.dU.take j).foldl (nr s op) []=P at *;obtain⟨z,jz⟩:∃z,Hid (z=(k.dU.take (j+1)).foldl (nr s op) []):=⟨_,aY rfl⟩;replace HF:Hid (z=nr s op P x):=aY (jz.aX.trans HF.aX);obtain rfl:=hr1 w (K.rf w);have rG:=k1.tr kr;obtain⟨D4,Cl,rfl⟩:=B.slice;have q9:∀i,i<4->wr.cell? ⟨b1,o1+j*4+i,U⟩=(jn x)[i]?:=λi hi=>(dd wr rG i hi).trans aD
   have q0:wr.cell? ⟨b1,o1+j*4,U⟩=I (G J x.id.1):=d0 wr rG;have Y:=bn.new wr 300 (jn x);have k3:=Y.cC;clear dd d0 jU hr1;go_upto_region 5 with fail;have L:=B.st k3;have eD:=kr.tr k3;generalize wr.alloc _=w3 at *;clear q9 q0 B k3 kr rG;by_cases V:16<=Q P
   ·have IK:(16:Int)<=(Q P:Int):=aZ;have T:Hid (R=P):=aY (by rw[HE.aX,PM.aX,PL.aX V]);have O:=k1.tr eD;clear V HF jz PL PM hpl;go_wp2;rw[jt];go_ret;exact⟨_,rfl,by rw[T.aX,nH.aX];exact L.low hz1,O⟩
   have IK:¬(16:Int)<=(Q P:Int):=aZ;have y:=Y.cell;clear V PL PM;have C3:=aY (Hd P x.id _ w3 L.bw aZ);go_wp2_with fail
   apply dP C3.aX eD;intro w4 t jo;have fq:=L.st t;have dV:=Y.bF t;clear L t y C3;have y:=dV.cell;cases hb0:fD P x.id;rotate_left
   ·have HP:Hid (z=P):=aY (by rw[HF.aX];unfold nr;rw[bO (by omega),bT (by simp[hb0])]);clear y hb0;exact NN
   go_wp2_with fail
   apply dP (CH.aX w4 (k1.tr jo) x.id) jo;intro w5 t oq;have fu:=fq.st t;have gh:=dV.bF t;clear fq t y;have y:=gh.cell;cases cD:dI s.list x.id;rotate_left
   ·have HP:Hid (z=P):=aY (by rw[HF.aX];unfold nr;rw[bO (by omega),bT (by simp[hb0,cD])]);clear y hb0 cD;exact akP
   go_wp2_with fail
   apply dP (CP.aX w5 (k1.tr oq) x.id) oq;intro w6 t qh;have mo:=fu.st t;have lF:=gh.bF t;clear fu t y;have y:=lF.cell;cases hb2:dI s.prom x.id;rotate_left
   ·have HP:Hid (z=P):=aY (by rw[HF.aX];unfold nr;rw[bO (by omega),bT (by simp[hb0,cD,hb2])]);clear y hb0 cD hb2;go_wp2;go_roundw
    case rel=>exact⟨j+1,aZ,cU,by rw[<- jz.aX,HP.aX];exact mo,qh⟩
    case measure=>simp[aO];omega
   go_wp2_with fail
   apply dP (CO.aX w6 (k1.tr qh) x.id) qh;intro w7 t ry;have jh:=mo.st t;have sg:=lF.bF t;clear mo t y;have y:=sg.cell;cases dy:dI op x.id;rotate_left
   ·have HP:Hid (z=P):=aY aBk;clear y hb0 cD hb2 dy;go_wp2;go_roundw
    case rel=>exact⟨j+1,aZ,cU,by rw[<- jz.aX,HP.aX];exact jh,ry⟩
    case measure=>simp[aO];omega
   have HP:Hid (z=P++[x.id]):=aY aBl;clear hb0 cD hb2 dy HF;have hr:=fL.new (S:=dJ) (e:=42) (x:=x.id) (v:=av (dZ x.id)) (w:=w7) (N:=λk=>k<lo∨aW (F D4 (Q P) Cl)=I k) (λW u=>rfl) 0 (eO _);have kA:=K.new w7 (aq (dZ x.id) 42);have lr:=jh.st kA;have sD:=ry.tr kA;have s8:=sD.size;clear jh;go_wp2_with (at_builtin;refine kI rfl _ _ 53 rfl _ 3 24 wg rfl rfl lr _ rfl x.id ?p1 ?p2 ?p3 ?_)
   case p1=>exact hr
   case p2=>omega
   case p3=>exact s8
   intro v9 w9 cR dF fO cN;have yO:=sD.trans cN;clear hr lr dF fO cN;exact Zv
  ·have cd:¬(j:Int)<Q k.dU:=aZ;have T:Hid (R=(k.dU.take j).foldl (nr s op) []):=aY Zw;have O:=k1.tr kr;generalize (k.dU.take j).foldl (nr s op) []=P at *;obtain⟨D4,Cl,rfl⟩:=B.slice;go_wp2;go_ret;exact⟨_,rfl,by rw[T.aX,nH.aX];exact B.low hz1,O⟩
theorem av7 l v q(f:Nat) cs w(h:bw qj l v w)(V:Q l<=1000000)(T:∀args W,(callFunc f args).run prog W=.ok (.enter f args) W)
 (L:∀W,K w W->∀x∈l,aK prog f (#[av (jn x)]++cs) W λe W'=>e=ak (ar (q x))/\K W W') :
 aK prog 281 #[v,.func (.func f) #[] cs] w λe w'=>∃i:Int,e=ak (G J i)/\K w w'/\decide (0<=i)=l.any q:=by
 have O:=K.rf w
 obtain⟨A,c,rfl,h,-⟩:=h
 have R:=aY L
 go_in
 go_wp2_with fail
 go_loopw [5,8] (fun _ i wr=>∃k:Nat,k<=Q l/\i=G J (k:Int)/\Hid ((l.take k).any q=az)/\K w wr) (fun _ i _=>Q l-(aO i).toNat)
 case atStart=>exact⟨0,aZ,rfl,aY bq,O⟩
 case round =>
  obtain⟨k,hk,rfl,hall,kr⟩:=hrel;by_cases y:k<Q l
  ·have M:(k:Int)<(Q l:Int):=aZ;obtain⟨B,z,X,rfl,Y,S,C,d⟩:=eN h k y bC;have HB:=aY (AG q l k y);have HA:=aY (AH q l (k+1));have hm:=dG y;generalize l[k]=t at *;obtain rfl:=S w (K.rf w);have C:∀W,K w W->W.cell? ⟨B,z+k*4,U⟩=I (G J t.id.1):=C;have d:∀W,K w W->∀i,i<4->W.cell? ⟨B,z+k*4+i,U⟩=(jn t)[i]?:=λW j H=>λN=>(d W j H N).trans aD
   have C1:=aY (R.aX wr kr t hm);exact Zo
  ·have M:¬(k:Int)<(Q l:Int):=aZ;exact akQ
theorem auE l v q(f:Nat) cs w(h:bw qj l v w)(B:Q l<=1000000)(t:∀args W,(callFunc f args).run prog W=.ok (.enter f args) W)
 (C:∀W,K w W->∀x∈l,aK prog f (#[av (jn x)]++cs) W λe W'=>e=ak (ar (q x))/\K W W') :
 aK prog 227 #[v,.func (.func f) #[] cs] w λe w'=>e=ak (ar (l.any q))/\K w w':=by
 have y:=aY (av7 l v q f cs w h B t C)
 obtain⟨A,c,rfl⟩:=bD h
 generalize l.any q=R at *
 go_in
 go_wp2_with fail
 refine y.aX.mono ?_
 rintro e H⟨i,rfl,j,z⟩
 have HR:=aY z
 go_wp2
 go_ret
 exact⟨Zq,j⟩
theorem azV(x:mX) a:decide (x.id=a)=(x.id.1==a.1&&(x.id.2.1==a.2.1&&x.id.2.2==a.2.2)):=by
 grind
theorem atD x a g w(hg:bn w g 42 #[G J a.1,G E a.2.1,G E a.2.2]) :
 aK prog 228 #[av (jn x),aj (I ⟨g,0,U⟩)] w λe w'=>e=ak (ar (decide (x.id=a)))/\K w w':=by
 have j:=aY (azV x a)
 have q:=hg.cells
 have:=λo=>(K.rf w).al o
 obtain⟨C,A,z⟩:=a
 obtain⟨⟨t,B,H⟩,y⟩:=x
 simp only at q j⊢
 generalize decide ((t,B,H)=(C,A,z))=R at *
 go_in
 go_wp2
 all_goals
  go_ret
  refine⟨?_,(K.rf w).al _⟩
  rw[j.aX]
  show ak (ar _)=ak (ar _)
  first|(simp_all;done)|(simp_all;omega)|(congr 2;rw[Bool.eq_iff_iff];simp_all;omega)
theorem aBm:(prog.info? 300).map (λi=>(i.zero,i.size,i.bytes))=I (I (av #[G J 0,G E 0,G E 0,ar az]),4,32):=by rfl
theorem aoi:ir prog 237 300 (av #[G J 0,G E 0,G E 0,ar az]) 4 32:=⟨underlying237,aBm,rfl,bC⟩
theorem av8 kids:∀(l:List bW) (o:List mX),Q o<=16->Q (l.foldl (tu kids) o)<=16:=by
 intro l
 induction l with
 | nil=>intro o h;exact h
 | cons x l j =>
  grind [tu]
theorem av9:∀(l:List cB) (o:List mX),Q o<=16->Q (l.foldl oA o)<=16:=by
 intro l
 induction l with
 | nil=>intro o h;exact h
 | cons x l j =>
  grind [oA]
theorem auF:∀(l:List cB) (o:List mX),16<=Q o->l.foldl oA o=o:=by
 intro l
 induction l with
 | nil=>intro o h;rfl
 | cons x l j =>
  grind [oA]
theorem auG prom ie kids vp vf vk w(hp:bw cF prom vp w)(T:bw dJ ie vf w)(hk:bw Aj kids vk w)
 (hlp:Q prom<=1000000) (sA:Q ie<=1000000) (hlk:Q kids<=1000000) (hv:∀m∈kids,Q m.dU<=1000000) :
 aK prog 162 #[vp,vf,vk] w λe w'=>∃v',e=ak v'/\bK (λk=>k<Z (D w)) (Z (D w)) 300 qj (KD prom ie kids) v' w'/\K w w':=by
 have CS:=aY λW (k:K w W) a=>afR kids a vk W (cH hk k) hlk hv
 have HE:Hid (KD prom ie kids=ie.foldl oA (prom.foldl (tu kids) [])):=aY rfl
 have BC:=aY λj=>av8 kids (prom.take j) [] bq
 have aDs:=aY λj o ho=>av9 (ie.take j) o ho
 have aaH:=aY λj o (h:16<=Q ((ie.take j).foldl oA o))=>auF (ie.drop j) _ h
 obtain⟨Ap,cp,rfl,hl,-⟩:=hp
 obtain⟨Ar,cr,rfl,gj,-⟩:=T
 obtain⟨Ak,ck,rfl⟩:=bD hk
 generalize KD prom ie kids=R at *
 have kk:=K.rf w
 have jK:=bK.nil (λk=>k<Z (D w)) (Z (D w)) 300 qj w
 go_in
 go_wp2
 go_step3
 go_wp2_with fail
 go_loopw [7,9,10,15] (fun o _ _ i W=>∃j:Nat,j<=Q prom/\i=G J j/\bK (fun k=>k<Z (D w)) (Z (D w)) 300 qj ((prom.take j).foldl (tu kids) []) o W/\K w W) (fun _ _ _ i _=>Q prom-(aO i).toNat)
 case atStart=>exact⟨0,aZ,rfl,jK,kk⟩
 case round =>
  obtain⟨j,hj,rfl,C,kr⟩:=hrel;have hpl:=BC.aX j;by_cases hlt:j<Q prom
  ·have cd:(j:Int)<Q prom:=aZ;obtain⟨X,off,cs1,rfl,jU,hrl,d0,d⟩:=eN hl j hlt bC;have y:=aY (fold_succ (tu kids) prom [] j hlt);generalize prom[j]=x at *;generalize (prom.take j).foldl (tu kids) []=P at *;obtain⟨t,jz⟩:∃t,Hid (t=(prom.take (j+1)).foldl (tu kids) []):=⟨_,aY rfl⟩;replace y:Hid (t=tu kids P x):=aY (jz.aX.trans y.aX);obtain⟨vf,ve,rfl,hf,he⟩:=hrl w (K.rf w);have q9:∀i,i<8->wr.cell? ⟨X,off+j*8+i,U⟩=(bQ x vf ve)[i]?:=λi hi=>(d wr kr i hi).trans aD
   have q0:wr.cell? ⟨X,off+j*8,U⟩=I (G J x.kind):=d0 wr kr;have B:=bn.new wr 128 (bQ x vf ve);have k3:=B.cC;obtain⟨Af,cf,rfl⟩:=dK hf;obtain⟨Ae,ce,rfl⟩:=bD he;obtain⟨D4,Cl,rfl⟩:=C.slice;go_upto_region 5 with fail;have M:=C.st k3;have L:=kr.tr k3;generalize wr.alloc _=w3 at *;have q8:=B.cell;have C3:=aY (CS.aX w3 L (bB x));go_wp2_with fail
   apply dP C3.aX L;intro H V jo;have fq:=M.st V;have dV:=B.bF V;by_cases h0:kZ kids (bB x)=0
   ·have HP:Hid (t=P):=aY (by rw[y.aX];unfold tu;rw[bO (by simp[h0])]);have h0b:(kZ kids (bB x) != 0)=false:=NM;generalize kZ kids (bB x)=z at *;exact NN
   have h0b:(kZ kids (bB x) != 0)=true:=Ng;by_cases O:Q P<16;rotate_left
   ·have IK:¬(Q P:Int)<16:=aZ;have HP:Hid (t=P):=aY (by rw[y.aX];unfold tu;rw[bO (by omega)]);generalize kZ kids (bB x)=z at *;exact NN
   have IK:(Q P:Int)<16:=aZ;have HP:Hid (t=P++[⟨bB x,kZ kids (bB x)==1⟩]):=aY (by
    rw[y.aX];unfold tu;rw[bT ⟨h0,O⟩];congr 3)
   generalize kZ kids (bB x)=z at *;have q8:=dV.cell;have T:=fL.new (S:=qj) (e:=300) (x:=⟨bB x,z==1⟩) (v:=av (jn ⟨bB x,z==1⟩)) (w:=H) (N:=λk=>k<Z (D w)∨aW (F D4 (Q P) Cl)=I k) (λW u=>rfl) 0 (eO _);have Y:=K.new H (aq (jn ⟨bB x,z==1⟩) 300);have lr:=fq.st Y;have sD:=jo.tr Y;have s8:=sD.size;go_wp2_with (at_builtin;refine kI rfl _ _ 237 rfl _ 4 32 aoi rfl rfl lr _ rfl ⟨bB x,z==1⟩ ?p1 ?p2 ?p3 ?_)
   case p1=>exact T
   case p2=>omega
   case p3=>exact s8
   exact akR
  ·have cd:¬(j:Int)<Q prom:=aZ;have HR:Hid (R=ie.foldl oA ((prom.take j).foldl (tu kids) [])):=aY Zw;generalize (prom.take j).foldl (tu kids) []=P0 at *;have OE:=gj;have ia:=C;have k1:=kr;obtain⟨A,rfl⟩:∃o,o=P0:=⟨_,rfl⟩;generalize wr=w1 at *;go_wp2_with fail
   go_step3;go_wp2_with fail
   go_loopw [7,12,41] (fun o _ i W=>∃j:Nat,j<=Q ie/\i=G J j/\bK (fun k=>k<Z (D w)) (Z (D w)) 300 qj ((ie.take j).foldl oA A) o W/\K w W) (fun _ _ i _=>Q ie-(aO i).toNat)
   case atStart=>exact⟨0,aZ,rfl,ia,k1⟩
   case round =>
    obtain⟨j,hj,rfl,C,kr⟩:=hrel;have:=aDs.aX j _ hpl;by_cases hlt:j<Q ie
    ·have cd:(j:Int)<Q ie:=aZ;obtain⟨X,o1,cs1,rfl,jU,hr1,d0,dd⟩:=eN OE j hlt bC;have y:=aY (fold_succ oA ie A j hlt);have PL:=aY (aaH.aX j A);have PM:=aY (show ie.foldl oA A=(ie.drop j).foldl oA ((ie.take j).foldl oA A) by rw[<- List.foldl_append,List.take_append_drop]);generalize ie[j]=x at *;generalize (ie.take j).foldl oA A=P at *;obtain⟨t,jz⟩:∃t,Hid (t=(ie.take (j+1)).foldl oA A):=⟨_,aY rfl⟩;replace y:Hid (t=oA P x):=aY (jz.aX.trans y.aX);obtain rfl:=hr1 wr kr;obtain⟨D4,Cl,rfl⟩:=C.slice;have q9:∀i,i<3->wr.cell? ⟨X,o1+j*3+i,U⟩=(dZ x)[i]?:=λi hi=>(dd wr kr i hi).trans aD
     have q0:wr.cell? ⟨X,o1+j*3,U⟩=I (G J x.1):=d0 wr kr;have B:=bn.new wr 42 (dZ x);have k3:=B.cC;go_upto_region 12 with fail;have M:=C.st k3;have L:=kr.tr k3;generalize wr.alloc _=w3 at *;generalize Z (D wr)=gx at B⊢;by_cases O:16<=Q P
     ·have IK:(16:Int)<=(Q P:Int):=aZ;have ku:Hid (R=P):=aY (by rw[HR.aX,PM.aX,PL.aX O]);have kF:=L;go_wp2;try rw[jt]
      go_ret;exact⟨_,rfl,by rw[ku.aX];exact M,kF⟩
     have IK:¬(16:Int)<=(Q P:Int):=aZ;have C3:=aY (auE P _ (λv=>decide (v.id=x)) 228 #[aj (I ⟨gx,0,U⟩)] w3 M.bw aZ (λ_ _=>cY) λW k v _=>atD v x gx W (B.bF k));go_wp2_with fail
     apply dP C3.aX L;intro H V jo;have fq:=M.st V;have dV:=B.bF V;cases hb0:P.any λv=>decide (v.id=x)
     rotate_left
     ·have HP:Hid (t=P):=aY (by rw[y.aX];unfold oA;rw[bO O,bT hb0]);exact NN
     have HP:Hid (t=P++[⟨x,az⟩]):=aY (by rw[y.aX];unfold oA;rw[bO O,bO (by simp[hb0])]);have q8:=dV.cell;have T:=fL.new (S:=qj) (e:=300) (x:=⟨x,az⟩) (v:=av (jn ⟨x,az⟩)) (w:=H) (N:=λk=>k<Z (D w)∨aW (F D4 (Q P) Cl)=I k) (λW u=>rfl) 0 (eO _);have Y:=K.new H (aq (jn ⟨x,az⟩) 300);have lr:=fq.st Y;have sD:=jo.tr Y;have kp:=sD;have s8:=kp.size;go_wp2_with (at_builtin;refine kI rfl _ _ 237 rfl _ 4 32 aoi rfl rfl lr _ rfl ⟨x,az⟩ ?p1 ?p2 ?p3 ?_)
     case p1=>exact T
     case p2=>omega
     case p3=>exact s8
     intro v9 w9 cR dF fO cN;have yO:=kp.trans cN;exact Zv
    ·have cd:¬(j:Int)<Q ie:=aZ;have ku:Hid (R=(ie.take j).foldl oA A):=aY (by rw[HR.aX,iw (by omega)]);have kF:=kr;generalize (ie.take j).foldl oA A=P at *;obtain⟨D4,Cl,rfl⟩:=C.slice;go_wp2;try rw[jt]
     go_ret;exact⟨_,rfl,by rw[ku.aX];exact C,kF⟩
theorem agC s:∀(l:List bW) (p:List bW×List bW),Q (l.foldl (rO s) p).1<=max (Q p.1) 4/\Q (l.foldl (rO s) p).2<=Q p.2+Q l:=by
 intro l
 induction l with
 | nil=>intro p;simp;omega
 | cons x l j =>
  grind [rO]
theorem auH s op asks vl vp O Y va w(hs:pF s (av (dY s vl vp O)) w)(H:bw cF op Y w)(ha:bw cF asks va w)
 (uP:∀x∈op,fX x) (PK:∀x∈asks,fX x) (ko:Q s.list<=1000000/\Q s.ab<=1000000) (hlo:Q op<=1000000) (PN:Q asks<=500000) :
 aK prog 215 #[av (dY s vl vp O),Y,va] w λe w'=>∃v1 V,e=ak (au #[v1,V])/\nz (Z (D w)) (Z (D w)) 128 cF (qK s op asks).1 v1 128 cF (qK s op asks).2 V w'/\K w w':=by
 have oX:=aY λW (k:K w W)=>N6 hs k
 have CH:=aY λW (k:K w W) a=>FH s a (av (dY s vl vp O)) W (oX.aX W k) ko.1
 have CA:=aY λW (k:K w W) a=>JU s a (av (dY s vl vp O)) W (oX.aX W k) ko.2
 have CO:=aY λW (k:K w W)=>aez op Y W (cH H k) uP aZ
 have HAd:Hid (qK s op asks=asks.foldl (rO s) (op,[])):=aY rfl
 have BC:=aY λj=>agC s (asks.take j) (op,[])
 have HS:=aY PK
 obtain⟨Lq,Lr,vb',e,h1,h2,h3⟩:=hs
 simp at e
 obtain⟨rfl,rfl,rfl⟩:=e
 obtain⟨Al,cl,rfl⟩:=bD h1
 obtain⟨Ap,cp,rfl⟩:=bD h2
 obtain⟨Ab,cb,rfl⟩:=bD h3
 obtain⟨Aa,ca,rfl,hl,-⟩:=ha
 obtain⟨Ao,co,rfl⟩:=bD H
 generalize qK s op asks=R at *
 have hb:=bn.new w 61 (dY s (F Al (Q s.list) cl) (F Ap (Q s.prom) cp) (F Ab (Q s.ab) cb))
 have k1:=hb.cC
 go_in
 go_wp2
 go_step3
 generalize w.alloc _=N at *
 obtain⟨lo,X⟩:∃lo,Hid (lo=Z (D w)):=⟨_,aY rfl⟩
 generalize oW:Z (D w)=ga at hb⊢
 have:=hb.cells
 go_wp2_with fail
 apply dD (CO.aX N k1)
 rintro V w2⟨eE,k2⟩
 have B:nz lo (Z (D N)) 128 cF op V 128 cF ([]:List bW) (F U 0 0) w2:=nz.aa2 (eE.less λk hk=>by rw[X.aX]at hk;exact cQ hk k1.size) (by rw[X.aX];exact k1.size)
 obtain⟨A2,c2,rfl⟩:=B.a.slice
 have kk:=k2
 go_wp2_with fail
 go_step3
 go_wp2_with fail
 go_loopw [8,9,11,16] (fun o1 o2 _ i W=>∃j:Nat,j<=Q asks/\i=G J j/\nz lo (Z (D N)) 128 cF ((asks.take j).foldl (rO s) (op,[])).1 o1 128 cF ((asks.take j).foldl (rO s) (op,[])).2 o2 W/\K N W) (fun _ _ _ i _=>Q asks-(aO i).toNat)
 case atStart=>exact⟨0,aZ,rfl,ic,kk⟩
 case round =>
  obtain⟨j,hj,rfl,B,kr⟩:=hrel;by_cases hlt:j<Q asks
  ·have cd:(j:Int)<Q asks:=aZ;obtain⟨b1,off,cs,rfl,jU,hrl,d0,d⟩:=eN hl j hlt bC;have C:=aY (fold_succ (rO s) asks (op,[]) j hlt);have sC:=HS.aX _ (dG hlt);have hpl:=BC.aX j;generalize asks[j]=x at *;generalize (asks.take j).foldl (rO s) (op,[])=P at *;obtain⟨A,jz⟩:∃A,Hid (A=(asks.take (j+1)).foldl (rO s) (op,[])):=⟨_,aY rfl⟩;replace C:Hid (A=rO s P x):=aY (jz.aX.trans C.aX);have KZ:Q P.1<=1000000:=aZ;have OG:Q P.2<=500000:=NP;obtain⟨t,y⟩:=P;simp only at B KZ OG;obtain⟨vf,ve,rfl,hf,he⟩:=hrl w (K.rf w);have rG:=k1.tr kr;have HE:Hid (∀W,K w W->fc x (av (bQ x vf ve)) W):=aY λW k=>⟨_,_,rfl,fJ _ _ _ _ hf k,cH he k⟩
   have:∀i,i<8->wr.cell? ⟨b1,off+j*8+i,U⟩=(bQ x vf ve)[i]?:=λi hi=>(d wr rG i hi).trans aD
   have:wr.cell? ⟨b1,off+j*8,U⟩=I (G J x.kind):=d0 wr rG;have hx:=bn.new wr 128 (bQ x vf ve);have k3:=hx.cC;obtain⟨Af,cf,rfl⟩:=dK hf;obtain⟨Ae,ce,rfl⟩:=bD he;obtain⟨A1,c1,rfl⟩:=B.a.slice;obtain⟨A3,c3,rfl⟩:=B.b.slice;go_upto_region 6 with fail;have PO:=B.st k3;have eD:=kr.tr k3;generalize wr.alloc _=w3 at *;have T:=hx.cell;go_wp2_with fail
   apply dP (CH.aX w3 (k1.tr eD) (bB x)) eD;intro w4 z jo;have D6:=PO.st z;have dV:=hx.bF z;have T:=dV.cell;cases hb0:dI s.list (bB x);rotate_left
   ·have HP:Hid (A=(t,y)):=aY (by rw[C.aX];unfold rO;rw[bT (by simp[hb0])]);exact akS
   go_wp2_with fail
   apply dP (CA.aX w4 (k1.tr jo) (bB x)) jo;intro w5 z oq;have Fl:=D6.st z;have gh:=dV.bF z;have T:=gh.cell;cases cD:fD s.ab (bB x);rotate_left
   ·have HP:Hid (A=(t,y)):=aY (by rw[C.aX];unfold rO;rw[bT (by simp[hb0,cD])]);exact akT
   go_wp2_with fail
   apply dP (afg t (bB x) _ w5 Fl.a.bw KZ) oq;intro w6 z qh;have xA:=Fl.st z;have lF:=gh.bF z;have T:=lF.cell;cases hb2:dI t (bB x);rotate_left
   ·have HP:Hid (A=(t,y)):=aY (by rw[C.aX];unfold rO;rw[bT (by simp[hb0,cD,hb2])]);exact akU
   go_wp2_with fail
   apply dP (afg y (bB x) _ w6 xA.b.bw aZ) qh;intro w7 z ry;have Cm:=xA.st z;have sg:=lF.bF z;have T:=sg.cell;cases dy:dI y (bB x);rotate_left
   ·have HP:Hid (A=(t,y)):=aY (by rw[C.aX];unfold rO;rw[bT (by simp[hb0,cD,hb2,dy])]);exact akV
   have HN:Hid (A=if x.kind≠1 then (t,y++[x])else if Q t<4 then (t++[x],y)else (t,y)):=aY (by rw[C.aX];unfold rO;rw[bO (by simp[hb0,cD,hb2,dy])]);by_cases hk:x.kind≠1
   ·have hk2:(x.kind != 1)=true:=vD;have HP:Hid (A=(t,y++[x])):=aY (by rw[HN.aX,bT hk]);go_wp2_with fail
    apply dD (QX x _ w7 (HE.aX _ (k1.tr ry)) sC);rintro v8 w8⟨H,k8⟩;obtain⟨M,L,rfl,ox⟩:=Et H;have wy:=Cm.a.blk;have gB:=Cm.b.blk;have OH:=ry.size;have ll:=Cm.lo;have sD:=ry.tr k8;have hr:=fL.new (S:=cF) (e:=128) (v:=av (bQ x M L)) ox 0 (eO _);have kA:=K.new w8 (aq (bQ x M L) 128);have tX:=Cm.st (k8.tr kA);have kp:=sD.tr kA;have qA:=cI k8.size kA.size;go_wp2_with (at_builtin;refine kI rfl _ _ 59 rfl _ 8 96 rz rfl rfl tX.b _ rfl x ?p1 ?p2 ?p3 ?_)
    case p1 =>
     exact hr.less λk hk=>by
      rcases hk with (hk|hk)|hk
      ·omega
      ·have:=wy k hk;omega
      ·have:=gB k hk;omega
    case p2=>omega
    case p3=>exact cI OH qA
    exact Zx
   have hk2:(x.kind != 1)=false:=vD;by_cases jy:Q t<4
   ·have mH:(Q t:Int)<4:=aZ;have HP:Hid (A=(t++[x],y)):=aY (by rw[HN.aX,bO (by simpa using hk),bT jy]);go_wp2_with fail
    apply dD (QX x _ w7 (HE.aX _ (k1.tr ry)) sC);rintro v8 w8⟨H,k8⟩;obtain⟨M,L,rfl,ox⟩:=Et H;have wy:=Cm.a.blk;have gB:=Cm.b.blk;have OH:=ry.size;have ll:=Cm.lo;have sD:=ry.tr k8;have hr:=fL.new (S:=cF) (e:=128) (v:=av (bQ x M L)) ox 0 (eO _);have kA:=K.new w8 (aq (bQ x M L) 128);have tX:=Cm.st (k8.tr kA);exact akW
   have HP:Hid (A=(t,y)):=aY (by rw[HN.aX,bO (by simpa using hk),bO jy]);have mH:¬(Q t:Int)<4:=aZ;exact akV
  ·have cd:¬(j:Int)<Q asks:=aZ;obtain rfl:j=Q asks:=aZ;rw[nN]at B;have HT:=aY B;have kF:=k1.tr kr;obtain⟨A1,c1,h1⟩:=B.a.slice;obtain⟨A3,c3,h2⟩:=B.b.slice;subst h1 h2;go_wp2;go_ret2;exact⟨_,_,rfl,by rw[HAd.aX,<- X.aX];exact HT.aX.low (by rw[X.aX];exact k1.size) (bL _),kF⟩
def KF(s:fe)(a:cB):Bool:=dI s.list a||dI s.prom a||fD s.ab a
theorem auI s a vl vp y g w(S:pF s (av (dY s vl vp y)) w)(hg:bn w g 61 (dY s vl vp y))(H:Q s.list<=1000000/\Q s.prom<=1000000/\Q s.ab<=1000000) :
 aK prog 320 #[di a,aj (I ⟨g,0,U⟩)] w λe w'=>e=ak (ar (KF s a))/\K w w':=by
 have z:Hid (KF s a=(dI s.list a||dI s.prom a||fD s.ab a)):=aY rfl
 have A:=aY λW (k:K w W)=>N6 S k
 have CH:=aY λW (k:K w W)=>FH s a (av (dY s vl vp y)) W (A.aX W k) H.1
 have X:=aY λW (k:K w W)=>Mv s a (av (dY s vl vp y)) W (A.aX W k) H.2.1
 have CA:=aY λW (k:K w W)=>JU s a (av (dY s vl vp y)) W (A.aX W k) H.2.2
 obtain⟨Lq,Lr,vb',e,h1,h2,V⟩:=S
 simp at e
 obtain⟨rfl,rfl,rfl⟩:=e
 obtain⟨Al,cl,rfl⟩:=bD h1
 obtain⟨Ap,cp,rfl⟩:=bD h2
 obtain⟨Ab,cb,rfl⟩:=bD V
 have hb:=bn.new w 42 (dZ a)
 have k1:=hb.cC
 have Y:=hg.bF k1
 generalize KF s a=R at *
 go_in
 go_upto_region 1 with fail
 generalize w.alloc _=B at *
 have M:=hb.cells
 have L:=Y.cells
 have T:=M B (K.rf _)
 have O:=L B (K.rf _)
 go_wp2_with fail
 apply bN (CH.aX B k1)
 intro N t
 cases hb0:dI s.list a
 rotate_left
 ·have HF:Hid (R=aA):=aY (by rw[z.aX,hb0];simp);have kF:=k1.tr t;go_wp2;exact Ez
 have T:=M N t
 have O:=L N t
 go_wp2_with fail
 apply dP (X.aX N (k1.tr t)) t
 intro C k3 j
 cases cD:dI s.prom a
 rotate_left
 ·have HF:Hid (R=aA):=aY (by rw[z.aX,cD];simp);have kF:=k1.tr j;go_wp2;exact Ez
 have T:=M C j
 have O:=L C j
 go_wp2_with fail
 apply bN (CA.aX C (k1.tr j))
 intro w4 k4
 have HF:Hid (R=fD s.ab a):=aY (by rw[z.aX,hb0,cD];rfl)
 have kF:=k1.tr (j.tr k4)
 go_wp2
 go_ret
 exact⟨FQ,kF⟩
theorem afh s:∀(l:List bW) (p:List bW×List cB),Q (l.foldl (lJ s) p).1<=Q p.1+Q l/\Q (l.foldl (lJ s) p).2<=Q p.2+Q l:=by
 intro l
 induction l with
 | nil=>intro p;simp
 | cons x l j =>
  grind [lJ]
theorem asO s l vl vp X va w(hs:pF s (av (dY s vl vp X)) w)(ha:bw cF l va w)
 (PK:∀x∈l,fX x) (ko:Q s.list<=1000000/\Q s.prom<=1000000/\Q s.ab<=1000000) (PN:Q l<=500000) :
 aK prog 295 #[av (dY s vl vp X),va] w λe w'=>∃T v2,e=ak (au #[T,v2])/\nz (Z (D w)) (Z (D w)) 128 cF (pK s l).1 T 42 dJ (pK s l).2 v2 w'/\K w w':=by
 have oX:=aY hs
 have HAd:Hid (pK s l=l.foldl (lJ s) ([],[])):=aY rfl
 have BC:=aY λj=>afh s (l.take j) ([],[])
 have HS:=aY PK
 obtain⟨Lq,Lr,vb',e,h1,h2,h3⟩:=hs
 simp at e
 obtain⟨rfl,rfl,rfl⟩:=e
 obtain⟨Al,cl,rfl⟩:=bD h1
 obtain⟨Ap,cp,rfl⟩:=bD h2
 obtain⟨Ab,cb,rfl⟩:=bD h3
 obtain⟨Aa,ca,rfl,hl,-⟩:=ha
 generalize pK s l=R at *
 generalize aEj:dY s (F Al (Q s.list) cl) (F Ap (Q s.prom) cp) (F Ab (Q s.ab) cb)=sa at *
 have hb:=bn.new w 61 sa
 have k1:=hb.cC
 subst aEj
 go_in
 go_wp2
 go_step3
 generalize w.alloc _=C at *
 generalize oW:Z (D w)=lo at hb⊢
 have nH:=aY oW
 have hz1:lo<=Z (D C):=by rw[<- oW];exact k1.size
 have CK:=aY λW (k:K C W) a=>auI s a _ _ _ lo W (N6 oX.aX (k1.tr k)) (hb.bF k) ko
 have:=hb.cells
 have kk:=K.rf C
 have A:nz lo (Z (D C)) 128 cF ([]:List bW) (F U 0 0) 42 dJ ([]:List cB) (F U 0 0) C:=nz.aa2 (bK.nil _ _ _ _ _) hz1
 go_wp2_with fail
 go_step3
 go_wp2_with fail
 go_loopw [6,7,10,14] (fun o1 o2 _ i W=>∃j:Nat,j<=Q l/\i=G J j/\nz lo (Z (D C)) 128 cF ((l.take j).foldl (lJ s) ([],[])).1 o1 42 dJ ((l.take j).foldl (lJ s) ([],[])).2 o2 W/\K C W) (fun _ _ _ i _=>Q l-(aO i).toNat)
 case atStart=>exact⟨0,aZ,rfl,ic,kk⟩
 case round =>
  obtain⟨j,hj,rfl,A,kr⟩:=hrel;by_cases L:j<Q l
  ·have cd:(j:Int)<Q l:=aZ;obtain⟨b1,off,cs,rfl,jU,hrl,d0,d⟩:=eN hl j L bC;have HF:=aY (fold_succ (lJ s) l ([],[]) j L);have sC:=HS.aX _ (dG L);have hpl:=BC.aX j;generalize l[j]=x at *;generalize (l.take j).foldl (lJ s) ([],[])=P at *;obtain⟨z,jz⟩:∃z,Hid (z=(l.take (j+1)).foldl (lJ s) ([],[])):=⟨_,aY rfl⟩;replace HF:Hid (z=lJ s P x):=aY (jz.aX.trans HF.aX);have KZ:Q P.1<=500000:=NP;have OG:Q P.2<=500000:=NP;obtain⟨t,y⟩:=P;simp only at A KZ OG;obtain⟨vf,ve,rfl,hf,V⟩:=hrl w (K.rf w);have rG:=k1.tr kr;have HE:Hid (∀W,K w W->fc x (av (bQ x vf ve)) W):=aY λW k=>⟨_,_,rfl,fJ _ _ _ _ hf k,cH V k⟩
   have:∀i,i<8->wr.cell? ⟨b1,off+j*8+i,U⟩=(bQ x vf ve)[i]?:=λi hi=>(d wr rG i hi).trans aD
   have:wr.cell? ⟨b1,off+j*8,U⟩=I (G J x.kind):=d0 wr rG;have H:=bn.new wr 128 (bQ x vf ve);have Y:=H.cC;obtain⟨Af,cf,rfl⟩:=dK hf;obtain⟨Ae,ce,rfl⟩:=bD V;obtain⟨A1,c1,rfl⟩:=A.a.slice;obtain⟨A3,c3,rfl⟩:=A.b.slice;go_upto_region 7 with fail;have PO:=A.st Y;have eD:=kr.tr Y;generalize wr.alloc _=w3 at *;have M:=H.cell;go_wp2_with fail
   apply dP (CK.aX w3 eD (bB x)) eD;intro w4 B jo;have D6:=PO.st B;have dV:=H.bF B;have M:=dV.cell;cases hb0:KF s (bB x);rotate_left
   ·have HP:Hid (z=(t,y)):=aY aBn;exact akS
   go_wp2_with fail
   apply dP (aeR t (bB x) _ w4 D6.a.bw aZ) jo;intro w5 B oq;have Fl:=D6.st B;have gh:=dV.bF B;have M:=gh.cell;cases hb2:dI t (bB x);rotate_left
   ·have HP:Hid (z=(t,y)):=aY (by rw[HF.aX];unfold lJ;rw[bT (by simp[hb2])]);exact akT
   go_wp2_with fail
   apply dP (Hd y (bB x) _ w5 Fl.b.bw aZ) oq;intro O B qh;have xA:=Fl.st B;have lF:=gh.bF B;have M:=lF.cell;cases dy:fD y (bB x);rotate_left
   ·have HP:Hid (z=(t,y)):=aY (by rw[HF.aX];unfold lJ;rw[bT (by simp[dy])]);exact akU
   have HN:Hid (z=if Q s.prom+Q t<6 then (t++[x],y)else (t,y++[bB x])):=aY aBo;have wy:=xA.a.blk;have gB:=xA.b.blk;have OH:=qh.size;by_cases h6:Q s.prom+Q t<6
   ·have h6i:(Q s.prom:Int)+Q t<6:=aZ;have HP:Hid (z=(t++[x],y)):=aY (by rw[HN.aX,bT h6]);go_wp2_with fail
    apply dD (atp x _ O (HE.aX _ (k1.tr qh)) sC);rintro v8 w8⟨ho,k8⟩;obtain⟨qC,qD,rfl,ox⟩:=Et ho;have sD:=qh.tr k8;have hr:=fL.new (S:=cF) (e:=128) (v:=av (bQ x qC qD)) ox 0 (eO _);have kA:=K.new w8 (aq (bQ x qC qD) 128);have tX:=xA.st (k8.tr kA);exact akW
   ·have h6i:¬(Q s.prom:Int)+Q t<6:=aZ;have HP:Hid (z=(t,y++[bB x])):=aY (by rw[HN.aX,bO h6]);have hr:=fL.new (S:=dJ) (e:=42) (x:=bB x) (v:=av (dZ (bB x))) (w:=O) (N:=λk=>(k<lo∨aW (F A1 (Q t) c1)=I k)∨aW (F A3 (Q y) c3)=I k) (λW u=>rfl) 0 (eO _);have kA:=K.new O (aq (dZ (bB x)) 42);have tX:=xA.st kA;have kp:=qh.tr kA;have qA:=kA.size;go_wp2_with (at_builtin;refine kI rfl _ _ 53 rfl _ 3 24 wg rfl rfl tX.b _ rfl (bB x) ?p1 ?p2 ?p3 ?_)
    case p1=>exact hr
    case p2=>omega
    case p3=>exact cI OH qA
    exact Zx
  ·have cd:¬(j:Int)<Q l:=aZ;have HR:Hid (R=(l.take j).foldl (lJ s) ([],[])):=aY (by rw[HAd.aX,iw (by omega)]);have kF:=k1.tr kr;generalize (l.take j).foldl (lJ s) ([],[])=P at *;have HT:=aY (A.low (base':=lo) hz1 (bL _));obtain⟨A1,c1,rfl⟩:=A.a.slice;obtain⟨A3,c3,rfl⟩:=A.b.slice;go_wp2;go_ret2;exact⟨_,_,rfl,by rw[HR.aX,nH.aX];exact HT.aX,kF⟩
