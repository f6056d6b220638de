/-
  The walks of broker's Begin, Sub, Unsub (layer 20). Conditions: none.
-/
import Derived.Test.YtfndfpdhlbmboaaGreatMa14
import Derived.Test.YtfndfpdhlbmboaaGreatMz
set_option maxRecDepth 100000
set_option linter.constructorNameAsVariable false
set_option maxHeartbeats 16000000
set_option linter.unusedVariables false
set_option linter.unusedSimpArgs false
namespace Go.Proofs.YtfndfpdhlbmboaaGreat
open Go Go.RowKit _root_.Go.Proofs.Tryz
theorem bD.new{B}(j:bD B):eu (pV B):=by
 have t:=j.me;have y:=j.calls;have u:=j.dk.inv.life;have A:=sD j.tr;simp only[fT,dE,decide_eq_true_eq]at t;refine⟨?_,u,?_⟩
 ·simp only[pV,cJ];omega
 ·simp only[pV];omega
theorem aoW{M p B w}(h:bA M p B w)(j:bD B) c(Y:cJ c) gb G(L:ah w gb 90 #[.pointer (some ⟨p.g,0,none⟩)])(H:ah w G 3 #[.int .i64 c]) :
 Calls prog 100 #[bU (pV B),.pointer (some ⟨gb,0,none⟩),.pointer (some ⟨G,0,none⟩)] w λe w'=>∃v',e=.returned (.tuple #[v',.int .i64 (xZ B.aB (pV B) c).2])/\aV w.heap.size w.heap.size 128 cW (xZ B.aB (pV B) c).1 v' w'/\K w w':=by
 have C1:=ae λW (k:K w W)=>aqi B.aB (pV B) c p.vt W (h.bI.at k).aB j.new Y j.tx.small j.tx.zW
 have q:=h.q
 have u:=L.cells
 have E:=H.cells
 have F:=aw h.bI.now.aB
 generalize pV B=a at *
 have hb:=ah.new w 26 #[.int .i64 a.1,.int .u64 a.2.1,.int .u64 a.2.2]
 have k1:=hb.aS
 obtain⟨g,gl,gd,gr,gt,vd,vr,vp,vh,vl,vq,va,vt,vf,vw,kr⟩:=p
 simp only at q C1 F u
 obtain⟨At,ct,rfl⟩:=F
 generalize xZ B.aB a c=R at *
 obtain⟨N,rc⟩:=R
 clear h j L H
 go_enter func100,ntmps100
 go_upto_region 1 with (fail)
 generalize w.alloc _=D at *
 obtain⟨lo,hlo⟩:∃lo,Hid (lo=w.heap.size):=⟨_,ae rfl⟩
 generalize w.heap.size=ga at hb⊢
 have y:=hb.cells
 have C:=λW (k:K D W)=>q W (k1.tr k)
 have t:=λW (k:K D W)=>u W (k1.tr k)
 have A:=λW (k:K D W)=>E W (k1.tr k)
 clear q u E hb
 have qs:=And.intro C (And.intro y (And.intro t A))
 refine dD 9 [([],[]),([0],[(6,0)]),([1],[(7,1)]),([2],[(8,2)]),([],[]),([],[]),([3,4,5],[(9,3),(10,4),(11,5)]),([6],[(12,6)]),([6],[(12,6)]),([0,1,2,3,4,5,6,7,8],[(13,7)]),([0,1,2,3,4,5,6,7,8,9],[(14,8)])] 15 ?_
 iterate 6 refine au.i ?_
 refine au.op (λv W=>∃v',v=.tuple #[v',.int .i64 rc]/\aV lo lo 128 cW N v' W) (λ_ _ _ ⟨v',e,h⟩ k=>⟨v',e,h.st k⟩) (λV W kW hp=>?_) ?_
 ·(try simp only[cd,aO,aQ,bW,bY,aJ]at hp)
  simp[bP,aE,List.lookup,hp,cN,execOp,aF,C,y,t,A,go_sem];exact agX
 refine au.op (λv W=>aV lo lo 128 cW N v W) (λ_ _ _ h k=>h.st k) (λV W kW hp=>?_) ?_
 ·exact PZ
 refine au.is (.int .i64 rc) (λV W kW hp=>?_) ?_
 ·exact P4
 clear qs
 intro V W kW hA
 simp only[aO,aQ,cz,aJ,Nat.reduceAdd]at hA
 obtain⟨S,O,X,Z,e4,Q,⟨v',e6,dM⟩,hO,J,-⟩:=hA
 have kF:=k1.tr kW
 generalize I:V 7=v7 at *
 have U:=aw hO.aq
 obtain⟨A7,c7,rfl⟩:=U
 apply aH.pure
 rfl
 simp[aE,List.lookup,ba,I,execOp,aF,go_sem]
 rfl
 apply aH.pure
 rfl
 simp[aE,List.lookup,ba,J,execOp,aF,go_sem]
 rfl
 refine aH.e ?_
 have T:=ae hO
 clear hO dM C1 C y t A I S O X Z e4 Q e6 J
 go_wp2
 go_ret2
 exact⟨_,rfl,by rw[<- hlo.aa];exact T.aa,kF⟩
theorem aqm{M p B w}(h:bA M p B w)(u:bD B) c(hc:cJ c)(n:Nat)(hn:n<18446744073709551616) f A(L:fu f A w)(Ly:∀t∈f,jh t)(cL:f.length<=1000000) gb U gn gf(hgb:ah w gb 90 #[.pointer (some ⟨p.g,0,none⟩)])(Z:ah w U 3 #[.int .i64 c])(T:ah w gn 24 #[.int .u64 n])(Y:ah w gf 53 #[A]) :
 Calls prog 131 #[bU (pV B),.pointer (some ⟨gb,0,none⟩),.pointer (some ⟨U,0,none⟩),.pointer (some ⟨gn,0,none⟩),.pointer (some ⟨gf,0,none⟩)] w λe w'=>∃v',e=.returned (.tuple #[v',.int .i64 (wZ B.aB (qY B 2 c n f)).2])/\aV w.heap.size w.heap.size 128 cW (wZ B.aB (qY B 2 c n f)).1 v' w'/\K w w':=by
 have G:=u.new
 have hfit:cD (qY B 2 c n f):=⟨by simp[qY,cJ],G.1,hc,G.2.1,G.2.2,hn,Ly,by simp[qY]⟩
 have C1:=ae λW (k:K w W)=>atv B.aB (qY B 2 c n f) p.vt (.agg (aD (qY B 2 c n f) A (.slice none 0 0))) W (h.bI.at k).aB ⟨_,_,rfl,eH _ _ _ _ L k,gh _ _⟩ hfit (by simp[eB,qY];exact cL) u.tx.small u.tx.zW
 have q:=h.q
 have E:=hgb.cells
 have Q:=Z.cells
 have X:=T.cells
 have qf:=Y.cells
 obtain⟨Af,cf,rfl⟩:=b6 L
 have S:=aw h.bI.now.aB
 simp only[qY]at C1
 have H:Hid (pV B=(B.me,B.st.life,B.calls+1)):=ae rfl
 obtain⟨n1,D⟩:∃n,n=B.calls+1:=⟨_,rfl⟩
 rw[<- D]at C1 H
 rw[H.aa]
 generalize y:wZ B.aB (qY B 2 c n f)=R at *
 simp only[qY]at y
 rw[<- D]at y
 rw[y]at C1
 clear D y H
 have hb:=ah.new w 26 #[.int .i64 B.me,.int .u64 B.st.life,.int .u64 n1]
 have k1:=hb.aS
 obtain⟨g,gl,gd,gr,gt,vd,vr,vp,vh,vl,vq,va,vt,vf,vw,kr⟩:=p
 simp only at q C1 S E
 obtain⟨At,ct,rfl⟩:=S
 obtain⟨rl,rc⟩:=R
 clear h u hgb Z T hfit Y L Ly
 go_enter func131,ntmps131
 go_upto_region 1 with (fail)
 generalize w.alloc _=j at *
 obtain⟨lo,hlo⟩:∃lo,Hid (lo=w.heap.size):=⟨_,ae rfl⟩
 generalize w.heap.size=ga at hb⊢
 have F:=hb.cells
 have N:=λW (k:K j W)=>q W (k1.tr k)
 have C:=λW (k:K j W)=>E W (k1.tr k)
 have J:=λW (k:K j W)=>Q W (k1.tr k)
 have O:=λW (k:K j W)=>X W (k1.tr k)
 have I:=λW (k:K j W)=>qf W (k1.tr k)
 clear qf
 clear q E Q X hb
 have qs:=And.intro N (And.intro F (And.intro C (And.intro J (And.intro O I))))
 refine dD 12 [([],[]),([0],[(8,0)]),([1],[(9,1)]),([2],[(10,2)]),([],[]),([],[]),([],[]),([],[]),([4,5,6,7],[(12,4),(13,5),(14,6),(15,7)]),([3,8],[(11,3),(16,8)]),([9],[(17,9)]),([9],[(17,9)]),([0,1,2,3,4,5,6,7,8,9,10,11],[(18,10)]),([0,1,2,3,4,5,6,7,8,9,10,11,12],[(19,11)])] 20 ?_
 iterate 9 refine au.i ?_
 refine au.op (λv W=>∃v',v=.tuple #[v',.int .i64 rc]/\aV lo lo 128 cW rl v' W) (λ_ _ _ ⟨v',e,h⟩ k=>⟨v',e,h.st k⟩) (λV W kW hp=>?_) ?_
 ·(try simp only[cd,aO,aQ,bW,bY,aJ]at hp)
  simp[bP,aE,List.lookup,hp,cN,execOp,aF,N,F,C,J,O,I,go_sem];exact agX
 refine au.op (λv W=>aV lo lo 128 cW rl v W) (λ_ _ _ h k=>h.st k) (λV W kW hp=>?_) ?_
 ·exact PZ
 refine au.is (.int .i64 rc) (λV W kW hp=>?_) ?_
 ·exact P4
 clear qs
 intro V W kW hA
 simp only[aO,aQ,cz,aJ,Nat.reduceAdd]at hA
 obtain⟨e0,e1,e2,e3,e4,e5,e6,e7,e8,⟨v',ev,dM⟩,hO,ec,-⟩:=hA
 have kF:=k1.tr kW
 generalize M6:V 10=v7 at *
 have mA:=aw hO.aq
 obtain⟨A7,c7,rfl⟩:=mA
 apply aH.pure
 rfl
 simp[aE,List.lookup,ba,M6,execOp,aF,go_sem]
 rfl
 apply aH.pure
 rfl
 simp[aE,List.lookup,ba,ec,execOp,aF,go_sem]
 rfl
 refine aH.e ?_
 have HO:=ae hO
 clear hO dM C1 N F C J O I M6 e0 e1 e2 e3 e4 e5 e6 e7 e8 ev ec
 go_wp2
 go_ret2
 exact⟨_,rfl,by rw[<- hlo.aa];exact HO.aa,kF⟩
section
variable {M:Nat->Prop} {p:nr} {B B':bj} {w w1 w2 w3:World} {g9:Nat}
theorem bA.EG(h:bA M p B w)(k:K w w1)(y:w.heap.size<=g9)(u:g9<w1.heap.size):bA (λk=>M k∨k=g9) p B w1 :=
 h.far (X:=λ_=>False) (ag.aT k _) (λ_ h=>h.elim) (λ_ h=>h.elim) (λk hk j=>j.resolve_right af) (λk hk=>.inl (h.sub k hk)) λb hb=>hb.elim (λt=>bz (h.low b t) k.size) λe=>e▸u
theorem dC.scratch(h:dC (λk=>M k∨k=g9) p B' w1 w2)(u:ag (λk=>k=g9) w2 w3)(k:K w w1)(C:w.heap.size<=g9)(D:g9<w1.heap.size)(G:∀k,bw p k->k<w.heap.size)(E:∀k,M k->k<w.heap.size):dC M p B' w w3:=by
 obtain⟨p',t,y,hg,hn⟩:=h;have A:¬bw p' g9:=λj=>(hn g9 j).elim (λh=>aG) λh=>af
 have F:=y.size;have B:=u.size;refine⟨p',t.far u (λk hk=>.inl (.inr hk)) (λk hk j=>A (hk▸j)) (λk _ j=>j.imp .inl id) (λk hk=>.inr hk) (λk hk=>hk.elim (λh=>aG) λh=>bz (t.low k (.inr h)) B),((ag.aT k _).tr y).gg u λk hk e=>af,hg,λk hk=>(hn k hk).imp id λh=>af⟩
theorem dC.keeps{t cs}(h:dC M p B' w1 w2)(hb:ah w1 g9 t cs)(hg:¬bw p g9):ah w2 g9 t cs:=by obtain⟨p',u,j,-⟩:=h;exact hb.aX j hg
end
theorem apo{M p B w}(h:bA M p B w)(F:bD B) c(O:cJ c) :
 Calls prog 49 #[.pointer (some ⟨p.g,0,none⟩),.int .i64 c] w λe w'=>e=.returned (.tuple #[bU (wT B c).2.1,.int .i64 (wT B c).2.2])/\dC M p (wT B c).1 w w':=by
 have HX:=ae λk hk=>h.low k (h.sub k hk)
 have HM:=ae h.low
 have H:=((ah.new w 90 #[.pointer (some ⟨p.g,0,none⟩)]).alloc (.cells #[.int .i64 c] 3)).alloc (.cells #[.int .i64 0,.int .u64 0,.int .u64 0] 26)
 have E:=(ah.new (w.alloc (.cells #[.pointer (some ⟨p.g,0,none⟩)] 90)) 3 #[.int .i64 c]).alloc (.cells #[.int .i64 0,.int .u64 0,.int .u64 0] 26)
 have C:=ah.new ((w.alloc (.cells #[.pointer (some ⟨p.g,0,none⟩)] 90)).alloc (.cells #[.int .i64 c] 3)) 26 #[.int .i64 0,.int .u64 0,.int .u64 0]
 have S:=K.QV w (.cells #[.pointer (some ⟨p.g,0,none⟩)] 90) (.cells #[.int .i64 c] 3) (.cells #[.int .i64 0,.int .u64 0,.int .u64 0] 26)
 simp only[World.size_alloc]at E C
 generalize U:w.heap.size+1+1=t at C
 have h9:w.heap.size<=t:=af
 have G:=h.EG S h9 C.lt
 have I:=ae (ab3 G F c 100 #[.pointer (some ⟨w.heap.size,0,none⟩),.pointer (some ⟨w.heap.size+1,0,none⟩)] (xZ B.aB (pV B) c) (λargs W=>fk) (λW kW=>aoW (G.st kW) F c O _ _ (H.av kW) (E.av kW)))
 have J:Hid (wT B c=jg B c (xZ B.aB (pV B) c)):=ae rfl
 generalize wT B c=R at *
 generalize jg B c (xZ B.aB (pV B) c)=T at *
 obtain⟨B',j,ec⟩:=T
 have L:=ae λA w3 (y:dC (λk=>M k∨k=t) p B' _ A) (u:ag (λk=>k=t) A w3)=>y.scratch u S h9 C.lt HX.aa HM.aa
 have Q:=ae λA (y:dC (λk=>M k∨k=t) p B' _ A)=>y.keeps C λhx=>V4
 have q1:=H.cell
 have Z:=E.cell
 clear h F C G O h9 H E
 go_enter func49,ntmps49
 go_upto_region 1 with (fail)
 generalize World.alloc (World.alloc (World.alloc w _) _) _=w1 at *
 clear U
 go_wp2_with fail
 apply bF I.aa
 intro A y
 have D:=Q.aa _ y
 have N:=ae (L.aa _ · y)
 have qr:=D.cell
 have zr:=D.frozen
 clear I L Q y q1 Z
 go_wp2
 have my:ah (World.setCell (World.setCell (World.setCell A _ _) _ _) _ _) t 26 #[.int .i64 j.1,.int .u64 j.2.1,.int .u64 j.2.2]:=((D.aM 0 (.int .i64 j.1)).aM 1 (.int .u64 j.2.1)).aM 2 (.int .u64 j.2.2)
 have V:=ae (N.aa _ (((ag.bL (X:=λk=>k=t) rfl 0 (.int .i64 j.1)).tr (ag.bL (X:=λk=>k=t) rfl 1 (.int .u64 j.2.1))).tr (ag.bL (X:=λk=>k=t) rfl 2 (.int .u64 j.2.2))))
 clear qr zr D N
 generalize World.setCell (World.setCell (World.setCell A _ _) _ _) _ _=W9 at *
 have Y:=my.cell
 try rw[gq]
 refine bodyPost_ret (v:=.tuple #[bU j,.int .i64 ec]) (by simp[results,results49,go_sem,Y]) rfl ?_
 exact⟨by rw[J.aa],by rw[J.aa];exact V.aa⟩
theorem arE{M p B w}(h:bA M p B w)(I:bD B) c(Z:cJ c)(n:Nat)(hn:n<18446744073709551616) f JF(O:fu f JF w)(Ly:∀t∈f,jh t)(cL:f.length<=1000000) :
 Calls prog 77 #[.pointer (some ⟨p.g,0,none⟩),.int .i64 c,.int .u64 n,JF] w λe w'=>e=.returned (.tuple #[bU (yw B c n f).2.1,.int .i64 (yw B c n f).2.2])/\dC M p (yw B c n f).1 w w':=by
 obtain⟨C,D,e0⟩:=b6 O
 subst e0
 have HX:=ae λk hk=>h.low k (h.sub k hk)
 have HM:=ae h.low
 have Q:=(((((ah.new w 90 #[.pointer (some ⟨p.g,0,none⟩)]).alloc (.cells #[.int .i64 c] 3)).alloc (.cells #[.int .u64 n] 24)).alloc (.cells #[(Value.slice C f.length D)] 53)).alloc (.cells #[.int .i64 0,.int .u64 0,.int .u64 0] 26))
 have H:=((((ah.new (w.alloc (.cells #[.pointer (some ⟨p.g,0,none⟩)] 90)) 3 #[.int .i64 c]).alloc (.cells #[.int .u64 n] 24)).alloc (.cells #[(Value.slice C f.length D)] 53)).alloc (.cells #[.int .i64 0,.int .u64 0,.int .u64 0] 26))
 have N:=(((ah.new ((w.alloc (.cells #[.pointer (some ⟨p.g,0,none⟩)] 90)).alloc (.cells #[.int .i64 c] 3)) 24 #[.int .u64 n]).alloc (.cells #[(Value.slice C f.length D)] 53)).alloc (.cells #[.int .i64 0,.int .u64 0,.int .u64 0] 26))
 have J:=((ah.new (((w.alloc (.cells #[.pointer (some ⟨p.g,0,none⟩)] 90)).alloc (.cells #[.int .i64 c] 3)).alloc (.cells #[.int .u64 n] 24)) 53 #[(Value.slice C f.length D)]).alloc (.cells #[.int .i64 0,.int .u64 0,.int .u64 0] 26))
 have F:=ah.new ((((w.alloc (.cells #[.pointer (some ⟨p.g,0,none⟩)] 90)).alloc (.cells #[.int .i64 c] 3)).alloc (.cells #[.int .u64 n] 24)).alloc (.cells #[(Value.slice C f.length D)] 53)) 26 #[.int .i64 0,.int .u64 0,.int .u64 0]
 have S:=K.azk w (.cells #[.pointer (some ⟨p.g,0,none⟩)] 90) (.cells #[.int .i64 c] 3) (.cells #[.int .u64 n] 24) (.cells #[(Value.slice C f.length D)] 53) (.cells #[.int .i64 0,.int .u64 0,.int .u64 0] 26)
 simp only[World.size_alloc]at H N J F
 generalize bB:w.heap.size+1+1+1+1=y at F
 have h9:w.heap.size<=y:=af
 have L:=h.EG S h9 F.lt
 have T:=ae (ab3 L I c 131 #[.pointer (some ⟨w.heap.size,0,none⟩),.pointer (some ⟨w.heap.size+1,0,none⟩),.pointer (some ⟨w.heap.size+1+1,0,none⟩),.pointer (some ⟨w.heap.size+1+1+1,0,none⟩)] (wZ B.aB (qY B 2 c n f)) (λargs W=>fk) (λW kW=>aqm (L.st kW) I c Z n hn f (Value.slice C f.length D) (eH _ _ _ _ O (S.tr kW)) Ly cL _ _ _ _ (Q.av kW) (H.av kW) (N.av kW) (J.av kW)))
 have U:Hid (yw B c n f=jg B c (wZ B.aB (qY B 2 c n f))):=ae rfl
 generalize yw B c n f=R at *
 generalize jg B c (wZ B.aB (qY B 2 c n f))=RR at *
 obtain⟨B',j,ec⟩:=RR
 have V:=ae λE w3 (A:dC (λk=>M k∨k=y) p B' _ E) (u:ag (λk=>k=y) E w3)=>A.scratch u S h9 F.lt HX.aa HM.aa
 have HR:=ae λE (A:dC (λk=>M k∨k=y) p B' _ E)=>A.keeps F λhx=>V4
 have q1:=Q.cell
 have q2:=H.cell
 clear h I F L Z h9 O Ly Q H N J
 go_enter func77,ntmps77
 go_upto_region 1 with (fail)
 generalize World.alloc (World.alloc (World.alloc (World.alloc (World.alloc w _) _) _) _) _=w1 at *
 clear bB
 go_wp2_with fail
 apply bF T.aa
 intro E A
 have G:=HR.aa _ A
 have Y:=ae (V.aa _ · A)
 have qr:=G.cell
 have zr:=G.frozen
 clear T V HR A q1 q2
 go_wp2
 have my:ah (World.setCell (World.setCell (World.setCell E _ _) _ _) _ _) y 26 #[.int .i64 j.1,.int .u64 j.2.1,.int .u64 j.2.2]:=((G.aM 0 (.int .i64 j.1)).aM 1 (.int .u64 j.2.1)).aM 2 (.int .u64 j.2.2)
 have HF:=ae (Y.aa _ (((ag.bL (X:=λk=>k=y) rfl 0 (.int .i64 j.1)).tr (ag.bL (X:=λk=>k=y) rfl 1 (.int .u64 j.2.1))).tr (ag.bL (X:=λk=>k=y) rfl 2 (.int .u64 j.2.2))))
 clear qr zr G Y
 generalize World.setCell (World.setCell (World.setCell E _ _) _ _) _ _=W9 at *
 have e9:=my.cell
 try rw[gq]
 refine bodyPost_ret (v:=.tuple #[bU j,.int .i64 ec]) (by simp[results,results77,go_sem,e9]) rfl ?_
 exact⟨by rw[U.aa],by rw[U.aa];exact HF.aa⟩
theorem abH x v w(h:cV x v w)(X:eB x) :
 Calls prog 122 #[v] w λe w'=>∃v',e=.returned v'/\vG w.heap.size x v' w'/\K w w':=by
 have T:=ae func122
 have Q:=ae ntmps122
 have zR:=ae results122
 obtain⟨vf,ve,rfl,U,he⟩:=h
 obtain⟨A,c,F,G⟩:=U
 obtain rfl:=F
 obtain⟨D,d,F,he,R⟩:=he
 obtain rfl:=F
 obtain⟨N,V,H⟩:=X
 obtain⟨k,b,l,s,cl,u,f,es⟩:=x
 simp only at G he R N V H⊢
 have E:=(ah.new w 126 (aD ⟨k,b,l,s,cl,u,f,es⟩ (.slice A f.length c) (.slice D es.length d))).alloc (.cells eI 126)
 have B:=ah.new (w.alloc (.cells (aD ⟨k,b,l,s,cl,u,f,es⟩ (.slice A f.length c) (.slice D es.length d)) 126)) 126 eI
 have J:=K.lq w (.cells (aD ⟨k,b,l,s,cl,u,f,es⟩ (.slice A f.length c) (.slice D es.length d)) 126) (.cells eI 126)
 have hz:(w.alloc (.cells (aD ⟨k,b,l,s,cl,u,f,es⟩ (.slice A f.length c) (.slice D es.length d)) 126)).heap.size=w.heap.size+1:=aj
 rw[hz]at B
 clear hz
 have Gp:=ae H
 clear H
 go_enter T.aa,Q.aa
 go_upto_region 1 with (fail)
 generalize World.alloc (World.alloc w _) _=w1 at *
 have O:=(G.below J (aC _)).more J.size
 have hr1:=B.lt
 clear G
 have q:=E.cell
 have z:=E.frozen
 go_wp2_with (at_builtin;refine iF rfl _ _ 53 rfl w1.heap.size 73 _ 5 56 TF _ 0 [] rfl (jV _ _ _ _) _ A f.length c (f.flatMap fF) rfl O (Ht f) ?p1 (aC _) ?_)
 case p1=>omega
 intro S t I _ _ aN
 have C:=E.av aN
 have M:=B.av aN
 have L:=J.tr aN
 obtain⟨A1,c1,rfl,-⟩:=(show fH t w1.heap.size S f from I).slice
 clear q z E B
 have q:=C.cell
 have z:=C.frozen
 have Y:=aN.size
 clear aN
 go_upto_region 3 with (fail)
 have eO:ah (t.setCell ⟨w.heap.size,6,none⟩ (.slice A1 f.length c1)) w.heap.size 126 #[.int .i64 k,.int .i64 b,.int .u64 l,.int .u64 s,.int .i64 cl,.int .u64 u,.slice A1 f.length c1,.slice D es.length d]:=C.aM 6 (.slice A1 f.length c1)
 have dI:=M.far (p:=⟨w.heap.size,6,none⟩) aj (.slice A1 f.length c1)
 have k3:K w (t.setCell ⟨w.heap.size,6,none⟩ (.slice A1 f.length c1)):=K.set L (aC _) 6 _
 have eD:fH (t.setCell ⟨w.heap.size,6,none⟩ (.slice A1 f.length c1)) w1.heap.size (.slice A1 f.length c1) f:=fH.up I (aI.set af 6 _)
 have Z:w.heap.size+1<(t.setCell ⟨w.heap.size,6,none⟩ (.slice A1 f.length c1)).heap.size:=KY
 clear C M L I q z
 generalize t.setCell _ _=w3 at *
 have rX:=K.rf w3
 have q:=eO.cell
 go_wp2_with fail
 clear q
 go_loopw [3,5,13] (fun o _ i W=>∃j:Nat,j<=es.length/\i=.int .i64 j/\aV w3.heap.size w3.heap.size 51 cG (es.take j) o W/\K w3 W) (fun _ _ i _=>es.length-(intOf i).toNat)
 case atStart=>exact⟨0,af,rfl,Fu,rX⟩
 case round => exact KZ
theorem Ox x v w(h:cV x v w)(X:eB x) :
 Calls prog 232 #[v] w λe w'=>∃v',e=.returned v'/\vG w.heap.size x v' w'/\K w w':=by
 have T:=ae func232
 have Q:=ae ntmps232
 have zR:=ae results232
 obtain⟨vf,ve,rfl,U,he⟩:=h
 obtain⟨A,c,F,G⟩:=U
 obtain rfl:=F
 obtain⟨D,d,F,he,R⟩:=he
 obtain rfl:=F
 obtain⟨N,V,H⟩:=X
 obtain⟨k,b,l,s,cl,u,f,es⟩:=x
 simp only at G he R N V H⊢
 have E:=(ah.new w 126 (aD ⟨k,b,l,s,cl,u,f,es⟩ (.slice A f.length c) (.slice D es.length d))).alloc (.cells eI 126)
 have B:=ah.new (w.alloc (.cells (aD ⟨k,b,l,s,cl,u,f,es⟩ (.slice A f.length c) (.slice D es.length d)) 126)) 126 eI
 have J:=K.lq w (.cells (aD ⟨k,b,l,s,cl,u,f,es⟩ (.slice A f.length c) (.slice D es.length d)) 126) (.cells eI 126)
 have hz:(w.alloc (.cells (aD ⟨k,b,l,s,cl,u,f,es⟩ (.slice A f.length c) (.slice D es.length d)) 126)).heap.size=w.heap.size+1:=aj
 rw[hz]at B
 clear hz
 have Gp:=ae H
 clear H
 go_enter T.aa,Q.aa
 go_upto_region 1 with (fail)
 generalize World.alloc (World.alloc w _) _=w1 at *
 have O:=(G.below J (aC _)).more J.size
 have hr1:=B.lt
 clear G
 have q:=E.cell
 have z:=E.frozen
 go_wp2_with (at_builtin;refine iF rfl _ _ 53 rfl w1.heap.size 73 _ 5 56 TF _ 0 [] rfl (jV _ _ _ _) _ A f.length c (f.flatMap fF) rfl O (Ht f) ?p1 (aC _) ?_)
 case p1=>omega
 intro S t I _ _ aN
 have C:=E.av aN
 have M:=B.av aN
 have L:=J.tr aN
 obtain⟨A1,c1,rfl,-⟩:=(show fH t w1.heap.size S f from I).slice
 clear q z E B
 have q:=C.cell
 have z:=C.frozen
 have Y:=aN.size
 clear aN
 go_upto_region 3 with (fail)
 have eO:ah (t.setCell ⟨w.heap.size,6,none⟩ (.slice A1 f.length c1)) w.heap.size 126 #[.int .i64 k,.int .i64 b,.int .u64 l,.int .u64 s,.int .i64 cl,.int .u64 u,.slice A1 f.length c1,.slice D es.length d]:=C.aM 6 (.slice A1 f.length c1)
 have dI:=M.far (p:=⟨w.heap.size,6,none⟩) aj (.slice A1 f.length c1)
 have k3:K w (t.setCell ⟨w.heap.size,6,none⟩ (.slice A1 f.length c1)):=K.set L (aC _) 6 _
 have eD:fH (t.setCell ⟨w.heap.size,6,none⟩ (.slice A1 f.length c1)) w1.heap.size (.slice A1 f.length c1) f:=fH.up I (aI.set af 6 _)
 have Z:w.heap.size+1<(t.setCell ⟨w.heap.size,6,none⟩ (.slice A1 f.length c1)).heap.size:=KY
 clear C M L I q z
 generalize t.setCell _ _=w3 at *
 have rX:=K.rf w3
 have q:=eO.cell
 go_wp2_with fail
 clear q
 go_loopw [3,5,13] (fun o _ i W=>∃j:Nat,j<=es.length/\i=.int .i64 j/\aV w3.heap.size w3.heap.size 51 cG (es.take j) o W/\K w3 W) (fun _ _ i _=>es.length-(intOf i).toNat)
 case atStart=>exact⟨0,af,rfl,Fu,rX⟩
 case round => exact KZ
theorem apq x v w(h:cV x v w)(X:eB x) :
 Calls prog 307 #[v] w λe w'=>∃v',e=.returned v'/\vG w.heap.size x v' w'/\K w w':=by
 have T:=ae func307
 have Q:=ae ntmps307
 have zR:=ae results307
 obtain⟨vf,ve,rfl,U,he⟩:=h
 obtain⟨A,c,F,G⟩:=U
 obtain rfl:=F
 obtain⟨D,d,F,he,R⟩:=he
 obtain rfl:=F
 obtain⟨N,V,H⟩:=X
 obtain⟨k,b,l,s,cl,u,f,es⟩:=x
 simp only at G he R N V H⊢
 have E:=(ah.new w 126 (aD ⟨k,b,l,s,cl,u,f,es⟩ (.slice A f.length c) (.slice D es.length d))).alloc (.cells eI 126)
 have B:=ah.new (w.alloc (.cells (aD ⟨k,b,l,s,cl,u,f,es⟩ (.slice A f.length c) (.slice D es.length d)) 126)) 126 eI
 have J:=K.lq w (.cells (aD ⟨k,b,l,s,cl,u,f,es⟩ (.slice A f.length c) (.slice D es.length d)) 126) (.cells eI 126)
 have hz:(w.alloc (.cells (aD ⟨k,b,l,s,cl,u,f,es⟩ (.slice A f.length c) (.slice D es.length d)) 126)).heap.size=w.heap.size+1:=aj
 rw[hz]at B
 clear hz
 have Gp:=ae H
 clear H
 go_enter T.aa,Q.aa
 go_upto_region 1 with (fail)
 generalize World.alloc (World.alloc w _) _=w1 at *
 have O:=(G.below J (aC _)).more J.size
 have hr1:=B.lt
 clear G
 have q:=E.cell
 have z:=E.frozen
 go_wp2_with (at_builtin;refine iF rfl _ _ 53 rfl w1.heap.size 73 _ 5 56 TF _ 0 [] rfl (jV _ _ _ _) _ A f.length c (f.flatMap fF) rfl O (Ht f) ?p1 (aC _) ?_)
 case p1=>omega
 intro S t I _ _ aN
 have C:=E.av aN
 have M:=B.av aN
 have L:=J.tr aN
 obtain⟨A1,c1,rfl,-⟩:=(show fH t w1.heap.size S f from I).slice
 clear q z E B
 have q:=C.cell
 have z:=C.frozen
 have Y:=aN.size
 clear aN
 go_upto_region 3 with (fail)
 have eO:ah (t.setCell ⟨w.heap.size,6,none⟩ (.slice A1 f.length c1)) w.heap.size 126 #[.int .i64 k,.int .i64 b,.int .u64 l,.int .u64 s,.int .i64 cl,.int .u64 u,.slice A1 f.length c1,.slice D es.length d]:=C.aM 6 (.slice A1 f.length c1)
 have dI:=M.far (p:=⟨w.heap.size,6,none⟩) aj (.slice A1 f.length c1)
 have k3:K w (t.setCell ⟨w.heap.size,6,none⟩ (.slice A1 f.length c1)):=K.set L (aC _) 6 _
 have eD:fH (t.setCell ⟨w.heap.size,6,none⟩ (.slice A1 f.length c1)) w1.heap.size (.slice A1 f.length c1) f:=fH.up I (aI.set af 6 _)
 have Z:w.heap.size+1<(t.setCell ⟨w.heap.size,6,none⟩ (.slice A1 f.length c1)).heap.size:=KY
 clear C M L I q z
 generalize t.setCell _ _=w3 at *
 have rX:=K.rf w3
 have q:=eO.cell
 go_wp2_with fail
 clear q
 go_loopw [3,5,13] (fun o _ i W=>∃j:Nat,j<=es.length/\i=.int .i64 j/\aV w3.heap.size w3.heap.size 51 cG (es.take j) o W/\K w3 W) (fun _ _ i _=>es.length-(intOf i).toNat)
 case atStart=>exact⟨0,af,rfl,Fu,rX⟩
 case round => exact KZ
theorem TH l v w(h:aq aU l v w)(H:∀x∈l,eB x)(hn:l.length<=1000000) :
 Calls prog 115 #[v] w λe w'=>∃v',e=.returned v'/\aA (λk=>k<w.heap.size) w.heap.size 126 aU l v' w'/\K w w':=by
 obtain⟨A,c,rfl,R,X⟩:=h
 have L:=ae H
 have E:=K.rf w
 have hO:=aA.nil (λk=>k<w.heap.size) w.heap.size 126 aU w
 clear H
 go_enter func115,ntmps115
 go_wp2_with fail
 go_loopw [3,5,8] (fun o _ i W=>∃j:Nat,j<=l.length/\i=.int .i64 j/\aA (fun k=>k<w.heap.size) w.heap.size 126 aU (l.take j) o W/\K w W) (fun _ _ i _=>l.length-(intOf i).toNat)
 case atStart=>exact⟨0,af,rfl,Bv,E⟩
 case round =>
  clear hO E;obtain⟨j,Z,rfl,hO,kr⟩:=hrel;by_cases hlt:j<l.length
  ·have aP:(j:Int)<l.length:=af;obtain⟨C,G,cs,rfl,J,D,F,d⟩:=ed R j hlt ay;have HT:Hid (l.take (j+1)=l.take j++[l[j]]):=ae Im;have N:=L.aa _ (bS hlt);generalize l[j]=x at *;obtain⟨vf,t,rfl,u,y⟩:=D w (K.rf w);have Q:Hid (∀W,K w W->cV x (.agg (aD x vf t)) W):=ae λW k=>⟨_,_,rfl,eH _ _ _ _ u k,bo y k⟩
   have q:∀i,i<8->wr.cell? ⟨C,G+j*8+i,none⟩=(aD x vf t)[i]?:=λi O=>(d wr kr i O).trans Array.getElem?_toList
   have M:wr.cell? ⟨C,G+j*8,none⟩=some (.int .i64 x.kind):=F wr kr;have B:=ah.new wr 126 (aD x vf t);have I:=B.aS;obtain⟨V,Y,rfl⟩:=b6 u;obtain⟨Ae,U,rfl⟩:=aw y;clear d F u y D J;go_upto_region 5 with (fail);generalize wr.alloc _=T at *;replace hO:=hO.st I;have iJ:=kr.tr I;clear q M;have q:=B.cell;go_wp2_with fail
   refine (abH x _ T (Q.aa _ iJ) N).mono ?_;exact agY
  ·exact K5
theorem abo l v w(h:aq aU l v w)(H:∀x∈l,eB x)(hn:l.length<=1000000) :
 Calls prog 230 #[v] w λe w'=>∃v',e=.returned v'/\aA (λk=>k<w.heap.size) w.heap.size 126 aU l v' w'/\K w w':=by
 obtain⟨A,c,rfl,R,X⟩:=h
 have L:=ae H
 have E:=K.rf w
 have hO:=aA.nil (λk=>k<w.heap.size) w.heap.size 126 aU w
 clear H
 go_enter func230,ntmps230
 go_wp2_with fail
 go_loopw [3,5,8] (fun o _ i W=>∃j:Nat,j<=l.length/\i=.int .i64 j/\aA (fun k=>k<w.heap.size) w.heap.size 126 aU (l.take j) o W/\K w W) (fun _ _ i _=>l.length-(intOf i).toNat)
 case atStart=>exact⟨0,af,rfl,Bv,E⟩
 case round =>
  clear hO E;obtain⟨j,Z,rfl,hO,kr⟩:=hrel;by_cases hlt:j<l.length
  ·have aP:(j:Int)<l.length:=af;obtain⟨C,G,cs,rfl,J,D,F,d⟩:=ed R j hlt ay;have HT:Hid (l.take (j+1)=l.take j++[l[j]]):=ae Im;have N:=L.aa _ (bS hlt);generalize l[j]=x at *;obtain⟨vf,t,rfl,u,y⟩:=D w (K.rf w);have Q:Hid (∀W,K w W->cV x (.agg (aD x vf t)) W):=ae λW k=>⟨_,_,rfl,eH _ _ _ _ u k,bo y k⟩
   have q:∀i,i<8->wr.cell? ⟨C,G+j*8+i,none⟩=(aD x vf t)[i]?:=λi O=>(d wr kr i O).trans Array.getElem?_toList
   have M:wr.cell? ⟨C,G+j*8,none⟩=some (.int .i64 x.kind):=F wr kr;have B:=ah.new wr 126 (aD x vf t);have I:=B.aS;obtain⟨V,Y,rfl⟩:=b6 u;obtain⟨Ae,U,rfl⟩:=aw y;clear d F u y D J;go_upto_region 5 with (fail);generalize wr.alloc _=T at *;replace hO:=hO.st I;have iJ:=kr.tr I;clear q M;have q:=B.cell;go_wp2_with fail
   refine (Ox x _ T (Q.aa _ iJ) N).mono ?_;exact agY
  ·exact K5
theorem apr l v w(h:aq b5 l v w)(hn:l.length<=1000000000) :
 Calls prog 116 #[v] w λe w'=>∃v',e=.returned v'/\aA (λk=>k<w.heap.size) w.heap.size 26 b5 l v' w'/\K w w':=by
 obtain⟨A,c,rfl,t,-⟩:=h
 refine (abD A l.length c _ w (adf t) (PK l) hn).mono ?_
 rintro e w'⟨v',rfl,j,k⟩
 exact⟨v',rfl,⟨l.map eY,by rw[UG];exact j,aj,λW _=>Pa l W⟩,k⟩
theorem bD.DD{B}(t:bD B):(∀x∈B.st.list,eB x)/\(∀x∈B.st.prom,eB x)/\(∀x∈B.waits,eB x) :=
 ⟨λx j=>uy (t.dk.inv.yU x j).1,λx j=>uy (t.dk.inv.yV x j).1,λx j=>uy (t.waits x j).1⟩
theorem aps{M p B w}(h:bA M p B w)(T:bD B) :
 Calls prog 58 #[.pointer (some ⟨p.g,0,none⟩)] w λe w'=>∃vl vp va,e=.returned (.agg (cE B.st vl vp va))/\lE (λk=>k<w.heap.size) B.st vl vp va w'/\K w w':=by
 have iz:=T.DD
 have jn:=T.dk.len
 have S:=ae λW (k:K w W)=>TH B.st.list p.vl W (h.bI.at k).list iz.1 af
 have U:=ae λW (k:K w W)=>TH B.st.prom p.vq W (h.bI.at k).prom iz.2.1 af
 have C3:=ae λW (k:K w W)=>apr B.st.ab p.va W (h.bI.at k).ab af
 have q:=h.q
 have hs1:=aw h.bI.now.list
 have fC:=aw h.bI.now.prom
 have eU:=aw h.bI.now.ab
 have F:=ah.new w 46 jq
 have J:=F.aS
 obtain⟨g,gl,gd,gr,gt,vd,vr,vp,vh,vl,vq,va,vt,vf,vw,kr⟩:=p
 simp only at q S U C3 hs1 fC eU
 obtain⟨Al,cl,rfl⟩:=hs1
 obtain⟨Aq,cq,rfl⟩:=fC
 obtain⟨Aa,ca,rfl⟩:=eU
 generalize hS:B.st=s at *
 have HS:=ae hS
 clear h T iz jn hS
 go_enter func58,ntmps58
 go_upto_region 1 with (fail)
 generalize w.alloc _=t at *
 generalize dH:w.heap.size=j at F⊢
 have HG2:=ae dH
 clear dH
 have q1:=λW (k:K t W)=>q W (J.tr k)
 simp only[Gy,HS.aa]at q1
 clear q
 go_upto_region 3 with (fail)
 have qs:=q1
 refine dD 23 [([],[]),([0],[(6,0)]),([1],[(7,1)]),([2],[(8,2)]),([3],[(9,3)]),([],[]),([5],[(11,5)]),([6],[(12,6)]),([7],[(13,7)]),([8],[(14,8)]),([9],[(15,9)]),([],[]),([11],[(17,11)]),([12],[(18,12)]),([13],[(19,13)]),([14],[(20,14)]),([15],[(21,15)]),([],[]),([17],[(23,17)]),([18],[(24,18)]),([19],[(25,19)]),([20],[(26,20)]),([21],[(27,21)]),([4,10,16,22],[(10,4),(16,10),(22,16),(28,22)]),([0,1,2,3,4,5,6,7,8,9,10,11,12,13,14,15,16,17,18,19,20,21,22,23],[(29,23)])] 30 ?_
 iterate 10 refine au.i ?_
 refine au.c (λv W=>aA (λk=>k<t.heap.size) t.heap.size 126 aU s.list v W) (λ_ _ _ h k=>h.st k) (λW kW=>(S.aa W (J.tr kW)).mono λe w4 ⟨I,y,H,G⟩=>⟨I,y,(H.less λk hk=>bz hk kW.size).low kW.size,G⟩) ?_
 iterate 5 refine au.i ?_
 refine au.c (λv W=>aA (λk=>k<t.heap.size) t.heap.size 126 aU s.prom v W) (λ_ _ _ h k=>h.st k) (λW kW=>(U.aa W (J.tr kW)).mono λe w4 ⟨I,y,H,G⟩=>⟨I,y,(H.less λk hk=>bz hk kW.size).low kW.size,G⟩) ?_
 iterate 5 refine au.i ?_
 refine au.c (λv W=>aA (λk=>k<t.heap.size) t.heap.size 26 b5 s.ab v W) (λ_ _ _ h k=>h.st k) (λW kW=>(C3.aa W (J.tr kW)).mono λe w4 ⟨I,y,H,G⟩=>⟨I,y,(H.less λk hk=>bz hk kW.size).low kW.size,G⟩) ?_
 clear qs
 intro V W kW
 conv=>lhs;simp only[aO,aQ,cz,aJ,Nat.reduceAdd]
 intro hA
 obtain⟨e0,y,e2,e3,e4,e5,e6,e7,e8,Y,N,pr,Cs,y7,ED,qA,L,e17,e18,e19,e20,e21,R,-⟩:=hA
 obtain⟨C,c1,fD⟩:=N.slice
 obtain⟨E,c2,EH⟩:=L.slice
 obtain⟨A,c3,Zu⟩:=R.slice
 rw[fD]at N
 rw[EH]at L
 rw[Zu]at R
 apply aH.pure
 rfl
 simp[aE,List.lookup,ba,e4,fD,EH,Zu,execOp,aF,go_sem]
 try rfl
 have Q:=F.av kW
 have q9:=Q.cell
 have z9:=Q.frozen
 obtain⟨D,O⟩:∃D,D=World.setCell (World.setCell (World.setCell (World.setCell W ⟨j,0,none⟩ (.int .u64 s.life)) ⟨j,1,none⟩ (.slice C s.list.length c1)) ⟨j,2,none⟩ (.slice E s.prom.length c2)) ⟨j,3,none⟩ (.slice A s.ab.length c3):=⟨_,rfl⟩
 refine aH.skip D rfl (by rw[O];simp[aE,List.lookup,ba,execOp,aF,q9,z9,go_sem]) ?_
 refine aH.nil ?_
 simp only[fX,Act.put,rJ,qM,qL,Nat.reduceAdd,ba]
 have my:ah D j 46 (cE s (.slice C s.list.length c1) (.slice E s.prom.length c2) (.slice A s.ab.length c3)):=by rw[O];exact (((Q.aM 0 (.int .u64 s.life)).aM 1 (.slice C s.list.length c1)).aM 2 (.slice E s.prom.length c2)).aM 3 (.slice A s.ab.length c3)
 have u9:ag (λk=>k=j) W D:=by rw[O];exact (((ag.bL (X:=λk=>k=j) rfl 0 (.int .u64 s.life)).tr (ag.bL (X:=λk=>k=j) rfl 1 (.slice C s.list.length c1))).tr (ag.bL (X:=λk=>k=j) rfl 2 (.slice E s.prom.length c2))).tr (ag.bL (X:=λk=>k=j) rfl 3 (.slice A s.ab.length c3))
 have hg1:=F.lt
 have cP:=HG2.aa
 have hlt:∀k,k<w.heap.size->k<t.heap.size:=λk hk=>af
 have HF:Hid (lE (λk=>k<w.heap.size) s (.slice C s.list.length c1) (.slice E s.prom.length c2) (.slice A s.ab.length c3) D):=ae λW' u =>
  have Z:ag (λk=>k<t.heap.size) W W':=(u9.more λk hk=>af).tr (u.more hlt)
  ⟨N.fx (λ_ h=>h) W' Z,L.fx (λ_ h=>h) W' Z,R.fx (λ_ h=>h) W' Z⟩
 have hK:=u9.k (J.tr kW) λk hk=>af
 clear N L R Q F q1 q9 z9 O u9 e0 y e2 e3 e4 e5 e6 e7 e8 Y fD pr Cs y7 ED qA EH e17 e18 e19 e20 e21 Zu S U C3
 have Y:=my.cell
 go_wp2
 try rw[gq]
 refine bodyPost_ret (v:=.agg (cE s (.slice C s.list.length c1) (.slice E s.prom.length c2) (.slice A s.ab.length c3))) (by simp[results,results58,go_sem,Y]) rfl ?_
 exact⟨_,_,_,rfl,HF.aa,hK⟩
theorem aox{M p B w}(h:bA M p B w)(t:bD B) :
 Calls prog 67 #[.pointer (some ⟨p.g,0,none⟩)] w λe w'=>∃v',e=.returned v'/\aA (λk=>k<w.heap.size) w.heap.size 126 aU B.waits v' w'/\K w w':=by
 have C:=t.DD
 have y:=t.yB
 have j:=ae (TH B.waits p.vw w h.bI.now.waits C.2.2 y)
 have q:=h.blk.cell
 have A:=aw h.bI.now.waits
 obtain⟨g,gl,gd,gr,gt,vd,vr,vp,vh,vl,vq,va,vt,vf,vw,kr⟩:=p
 simp only at q j A
 obtain⟨I,cl,rfl⟩:=A
 clear h t C y
 go_enter func67,ntmps67
 go_wp2_with fail
 refine j.aa.mono ?_
 rintro e H⟨F,rfl,u,D⟩
 have E:=ae u
 obtain⟨G,c2,rfl⟩:=u.slice
 clear u q j
 go_wp2
 go_ret
 exact⟨_,rfl,E.aa,D⟩
