/-
  The walk of wire.Encode, whole (layer 13). Conditions: numbers that fit.
-/
import Derived.Test.YtfndfpdhlbmboaaGreatMd24
import Derived.Test.YtfndfpdhlbmboaaGreatMdz
set_option maxRecDepth 100000
set_option linter.constructorNameAsVariable false
set_option maxHeartbeats 16000000
set_option linter.unusedVariables false
set_option linter.unusedSimpArgs false
namespace Go.Proofs.YtfndfpdhlbmboaaGreat
open Go Go.RowKit _root_.Go.Proofs.Tryz
theorem xv{α} enc(l:List α)(h:∀x∈l,(enc x).length<=30000)(t:l.length<=16):(gy enc l).length<=480009:=by have u:=K6 enc 30000 l h;have j:=cS l.length af;unfold gy;simp only[dx];omega
theorem awh{m}(h:ed m=true)(I:pR m):(kZ m).length<=2000000:=by
 obtain⟨-,G,y,J,H,L,F⟩:=U0 h
 obtain⟨-,E,D,C,t,B,u,A⟩:=I
 have S:=xv mz m.cU (λx j=>U4 (D x j)) G.1
 have O:=xv gY m.asks (λx j=>FH (C x j)) y.1
 have Q:=xv gY m.entries (λx j=>FH (t x j)) J.1
 have M:=xv gY m.fe (λx j=>FH (B x j)) H.1
 have P:=xv fC m.dQ (λx j=>ID (u x j)) L.1
 have N:=xv fC m.ends (λx j=>ID (A x j)) F.1
 have R:=cS (bf m.kind) (gP _)
 have T:=cS m.got E
 unfold kZ
 grind
theorem ao2 m v w(h:mj m v w)(hf:pR m) :
 Calls prog 89 #[v] w λe w'=>∃v',e=.returned (.tuple #[v',.int .i64 (iU m)])/\Own w' w.heap.size 5 v' (LZ m)/\K w w':=by
 have C0:=ae λW (kW:K w W)=>ab2 m v W (X7 h kW)
 obtain⟨v1,v2,v3,v4,v5,v6,rfl,h1,h2,h3,h4,h5,h6⟩:=h
 have L1:=ae λW (kW:K w W)=>bo h1 kW
 have L2:=ae λW (kW:K w W)=>bo h2 kW
 have L3:=ae λW (kW:K w W)=>bo h3 kW
 have L4:=ae λW (kW:K w W)=>bo h4 kW
 have L5:=ae λW (kW:K w W)=>bo h5 kW
 have L6:=ae λW (kW:K w W)=>bo h6 kW
 obtain⟨A1,c1,rfl⟩:=av h1
 obtain⟨A2,c2,rfl⟩:=av h2
 obtain⟨A3,c3,rfl⟩:=av h3
 obtain⟨A4,c4,rfl⟩:=av h4
 obtain⟨A5,c5,rfl⟩:=av h5
 obtain⟨A6,c6,rfl⟩:=av h6
 clear h1 h2 h3 h4 h5 h6
 have j:=ai.new w 156 (lA m (.slice A1 m.cU.length c1) (.slice A2 m.asks.length c2) (.slice A3 m.entries.length c3) (.slice A4 m.fe.length c4) (.slice A5 m.dQ.length c5) (.slice A6 m.ends.length c6))
 have k1:=j.aU
 have t:=ae hf
 clear hf
 have S:Hid (iU m=if ed m then 0 else 130):=ae rfl
 have N:Hid (LZ m=if ed m then kZ m else []):=ae rfl
 generalize iU m=CK at *
 generalize LZ m=M at *
 go_enter func89,ntmps89
 go_upto_region 1 with (fail)
 generalize w.alloc _=w1 at *
 have qx:=j.cells
 have A:=K.rf w1
 generalize w.heap.size=g at *
 clear j
 go_wp2_with fail
 apply cG (C0.aa w1 k1) k1
 intro w2 k2 lO
 cases hok:ed m
 ·obtain rfl:CK=130:=by rw[S.aa,hok];rfl
  obtain rfl:M=[]:=by rw[N.aa,hok];rfl
  clear S N;go_wp2;go_ret2;exact⟨_,rfl,kU _ _ _ _,lO⟩
 obtain rfl:CK=0:=by rw[S.aa,hok];rfl
 have HR:Hid (M=kZ m):=ae (by rw[N.aa,hok];rfl)
 clear S N
 have u:=ae (U0 hok)
 clear hok C0
 have y:=λW (kW:K w2 W)=>qx W (k2.tr kW)
 have A:=K.rf w2
 have pY:=cS (bf m.kind) (gP _)
 have fL:=cS m.got t.aa.2.1
 clear qx
 go_upto_region 4 with (fail)
 have qs:=And.intro y DK
 refine dV 7 ?_
 iterate 3 refine au.i ?_
 refine au.c (sl (az (bf m.kind))) (oh _) (λW _=>(vR (bf m.kind) (X6 _) (gP _) aj).mono λe w9 ⟨T,I,U,Z⟩=>⟨T,I,eT (aO (az _)▸U),Z⟩) ?_
 iterate 2 refine au.i ?_
 refine au.op (sl (az (bf m.kind)++az m.got)) (oh _) (λV W kW hp=>?_) ?_
 ·simp only[cF,aO,aR,bW,bY,aJ]at hp;simp[bR,aF,List.lookup,hp,cW,execOp,aG,go_sem];exact (vR m.got hp.1 t.aa.2.1 af).mono λe w9 ⟨T,I,U,Z⟩=>⟨T,I,eT U,Z⟩
 intro V W kW hA
 simp only[aO,aR,cC,aJ,Nat.reduceAdd]at hA
 refine aH.p (aH.h ?_)
 have h7:=hA.2.2.2.2.2.2.1
 clear hA qs
 generalize V 6=v7 at *
 have Q:=h7
 have R:=lO.tr kW
 have L:=kW
 generalize W=B at *
 have b0:(az (bf m.kind)++az m.got).length<=18:=aA
 clear h7 pY fL
 by_cases gE:m.kind=1
 ·have A:=K.rf B;have J:=ae (aqc _ m.cU _ _ B Q (L1.aa _ R) af u.aa.2.1.1 t.aa.2.2.1);have jX:=xv mz m.cU (λx j=>U4 (t.aa.2.2.1 x j)) u.aa.2.1.1;have b1:(az (bf m.kind)++az m.got++gy mz m.cU).length<=480027:=aA;obtain⟨B0,e0,rfl,-⟩:=Q;generalize (az (bf m.kind)++az m.got).length=n0 at *;have q0:=λW (kW:K B W)=>y W (L.tr kW)
  have A:=K.rf B;go_wp2_with fail
  apply rM J.aa R;intro v19 W1 F j1 C;have G:=L.tr j1;clear J q0;have E:=ae (Ul _ m.asks _ _ W1 (eT F) (L2.aa _ C) af u.aa.2.2.1.1 t.aa.2.2.2.1);have ew:=xv gY m.asks (λx j=>FH (t.aa.2.2.2.1 x j)) u.aa.2.2.1.1;have b2:(az (bf m.kind)++az m.got++gy mz m.cU++gy gY m.asks).length<=960036:=aA;obtain⟨B1,I,rfl,-⟩:=eT F;generalize (az (bf m.kind)++az m.got++gy mz m.cU).length=n1 at *;have q1:=λW (kW:K W1 W)=>y W (G.tr kW)
  have A:=K.rf W1;go_wp2_with fail
  apply rM E.aa C;intro v29 H D Y O;have X:=G.tr Y;clear E q1;have HS:=ae (show Own H w.heap.size 5 v29 M from by rw[HR.aa];have h:=mN C.size D;simp only[kZ,eu,ite_true,gE]at h⊢;exact h);clear D;go_wp2;go_ret2;exact⟨_,rfl,HS.aa,O⟩
 ·have A:=K.rf B;have J:=ae (Ul _ m.entries _ _ B Q (L3.aa _ R) af u.aa.2.2.2.1.1 t.aa.2.2.2.2.1);have jX:=xv gY m.entries (λx j=>FH (t.aa.2.2.2.2.1 x j)) u.aa.2.2.2.1.1;have b1:(az (bf m.kind)++az m.got++gy gY m.entries).length<=480027:=aA;obtain⟨B0,e0,rfl,-⟩:=Q;generalize (az (bf m.kind)++az m.got).length=n0 at *;have q0:=λW (kW:K B W)=>y W (L.tr kW)
  have A:=K.rf B;go_wp2_with fail
  apply rM J.aa R;intro v19 W1 F j1 C;have G:=L.tr j1;clear J q0;have E:=ae (Ul _ m.fe _ _ W1 (eT F) (L4.aa _ C) af u.aa.2.2.2.2.1.1 t.aa.2.2.2.2.2.1);have ew:=xv gY m.fe (λx j=>FH (t.aa.2.2.2.2.2.1 x j)) u.aa.2.2.2.2.1.1;have b2:(az (bf m.kind)++az m.got++gy gY m.entries++gy gY m.fe).length<=960036:=aA;obtain⟨B1,I,rfl,-⟩:=eT F;generalize (az (bf m.kind)++az m.got++gy gY m.entries).length=n1 at *;have q1:=λW (kW:K W1 W)=>y W (G.tr kW)
  have A:=K.rf W1;go_wp2_with fail
  apply rM E.aa C;intro v29 H D Y O;have X:=G.tr Y;clear E q1;have C3:=ae (adl _ m.dQ _ _ H (eT D) (L5.aa _ O) af u.aa.2.2.2.2.2.1.1 t.aa.2.2.2.2.2.2.1);have qX:=xv fC m.dQ (λx j=>ID (t.aa.2.2.2.2.2.2.1 x j)) u.aa.2.2.2.2.2.1.1;have b3:(az (bf m.kind)++az m.got++gy gY m.entries++gy gY m.fe++gy fC m.dQ).length<=1440045:=aA;obtain⟨B2,e2,rfl,-⟩:=eT D;generalize (az (bf m.kind)++az m.got++gy gY m.entries++gy gY m.fe).length=n2 at *;have y:=λW (kW:K H W)=>y W (X.tr kW)
  have A:=K.rf H;go_wp2_with fail
  apply rM C3.aa O;intro v39 W3 fc j3 kw3;have kv3:=X.tr j3;clear C3 y;have C4:=ae (adl _ m.ends _ _ W3 (eT fc) (L6.aa _ kw3) af u.aa.2.2.2.2.2.2.1 t.aa.2.2.2.2.2.2.2);have kL:=xv fC m.ends (λx j=>ID (t.aa.2.2.2.2.2.2.2 x j)) u.aa.2.2.2.2.2.2.1;have b4:(az (bf m.kind)++az m.got++gy gY m.entries++gy gY m.fe++gy fC m.dQ++gy fC m.ends).length<=1920054:=aA;obtain⟨B3,e3,rfl,-⟩:=eT fc;generalize (az (bf m.kind)++az m.got++gy gY m.entries++gy gY m.fe++gy fC m.dQ).length=n3 at *;have q3:=λW (kW:K W3 W)=>y W (kv3.tr kW)
  have A:=K.rf W3;go_wp2_with fail
  apply rM C4.aa kw3;intro v49 W4 hs4 j4 kw4;have kv4:=kv3.tr j4;clear C4 q3;have HS:=ae (show Own W4 w.heap.size 5 v49 M from by rw[HR.aa];have h:=mN kw3.size hs4;simp only[kZ,eu,ite_false,gE]at h⊢;exact h);clear hs4;go_wp2;go_ret2;exact⟨_,rfl,HS.aa,kw4⟩
def AW:ei (Int×List UInt8) where
 size:=2
 rel x cs w:=∃v,cs=[.int .i64 x.1,v]/\sl x.2 v w
 len:=by rintro _ _ _⟨v,rfl,_⟩;rfl
 one:=by rintro x _ _⟨v,rfl,A,c,rfl,_⟩ u j;simp at j;rcases j with rfl|rfl <;> rfl
 st:=by rintro _ _ _ _⟨v,rfl,h⟩ k;exact⟨v,rfl,oh _ _ _ _ h k⟩
theorem axH:(prog.info? 96).map (λi=>(i.zero,i.size,i.bytes))=some (some (.agg #[.int .i64 0,.slice none 0 0]),2,32):=by rfl
theorem aAG:fY prog 92 96 (.agg #[.int .i64 0,.slice none 0 0]) 2 32:=⟨underlying92,axH,rfl,ax⟩
def tE(j:Int)(m:fH):List (Int×List UInt8):=if ed m then [(j,kZ m)]else []
theorem acN{base gb t o w} j m O(hb:ai w gb 92 #[o])(G:aB (λk=>k<base) base 96 AW t o w)(hm:mj m O w)(hfit:pR m)(hgb:gb<base)(hz:base<=w.heap.size)(hn:t.length<=1000) :
 Calls prog 88 #[.int .i64 j,O,.pointer (some ⟨gb,0,none⟩)] w λe w'=>e=.returned (.tuple #[])/\∃o',ai w' gb 92 #[o']/\aB (λk=>k<base) base 96 AW (t++tE j m) o' w'/\ag (λk=>k=gb∨o.ownBlock=some k) w w'/\∀k,o'.ownBlock=some k->o.ownBlock=some k∨w.heap.size<=k:=by
 have E:Hid (tE j m=if ed m then [(j,kZ m)]else []):=ae rfl
 have F:Hid (iU m=if ed m then 0 else 130):=ae rfl
 have L:Hid (LZ m=if ed m then kZ m else []):=ae rfl
 have C1:=ae λW (k:K w W)=>ao2 m O W (X7 hm k) hfit
 obtain⟨v1,v2,v3,v4,v5,v6,rfl,h1,h2,h3,h4,h5,h6⟩:=hm
 obtain⟨A1,c1,rfl⟩:=av h1
 obtain⟨A2,c2,rfl⟩:=av h2
 obtain⟨A3,c3,rfl⟩:=av h3
 obtain⟨A4,c4,rfl⟩:=av h4
 obtain⟨A5,c5,rfl⟩:=av h5
 obtain⟨A6,c6,rfl⟩:=av h6
 have y:=ai.new w 156 (lA m (.slice A1 m.cU.length c1) (.slice A2 m.asks.length c2) (.slice A3 m.entries.length c3) (.slice A4 m.fe.length c4) (.slice A5 m.dQ.length c5) (.slice A6 m.ends.length c6))
 have N:=y.aU
 obtain⟨A,B,rfl⟩:=G.slice
 generalize tE j m=SM at *
 generalize iU m=CK at *
 generalize LZ m=EM at *
 clear h1 h2 h3 h4 h5 h6
 go_enter func88,ntmps88
 go_upto_region 1 with (fail)
 generalize w.alloc _=w1 at *
 have qx:=y.cell
 have T:=ae (C1.aa w1 N)
 clear C1
 go_wp2_with fail
 refine T.aa.mono ?_
 rintro e V⟨v7,rfl,D,k2⟩
 have C:=N.tr k2
 have cH:=G.st C
 have J:=hb.ay C
 have hz1:=N.size
 have hz2:=C.size
 have bT:=G.blk
 cases hk:ed m
 ·obtain rfl:CK=130:=by rw[F.aa,hk];rfl
  have U:Hid (SM=[]):=ae (by rw[E.aa,hk];rfl);clear T qx hk F L E;go_wp2;go_end0;exact⟨rfl,_,J,by rw[U.aa,List.append_nil];exact cH,ag.aT C _,λ_ h=>.inl h⟩
 obtain rfl:CK=0:=by rw[F.aa,hk];rfl
 obtain rfl:EM=kZ m:=by rw[L.aa,hk];rfl
 have U:Hid (SM=[(j,kZ m)]):=ae (by rw[E.aa,hk];rfl)
 have q2:=J.cell
 have ke:Fx (λk=>k<base∨(Value.slice A t.length B).ownBlock=some k) (λW=>AW.rel (j,kZ m) (Value.agg #[.int .i64 j,v7]).cells.toList W) V:=λW u=>⟨v7,rfl,eT (i6 D u λk hk y=>by
  have:=(D.lt k hk).1;rcases y with y|y
  ·omega
  ·have:=(bT k y).2;omega)⟩
 obtain⟨Z,Q,rfl,-⟩:=eT D
 have hr:=eD.new (S:=AW) (e:=96) (v:=.agg #[.int .i64 j,.slice Z (kZ m).length Q]) ke 0 (eV _)
 have kA:=K.new V (.cells #[.int .i64 j,.slice Z (kZ m).length Q] 96)
 have bH:=cH.st kA
 have bG:=J.ay kA
 have mm:=C.tr kA
 have ix:=mm.size
 clear T qx hk F L E ke D cH G
 go_wp2_with (at_builtin;refine jN rfl _ _ 92 rfl _ 2 32 aAG rfl rfl bH _ rfl (j,kZ m) ?p1 ?p2 ?p3 ?_)
 case p1=>exact hr
 case p2=>omega
 case p3=>exact bn hz ix
 intro v9 w9 H bC cY aY
 have u9:ag (λk=>k=gb∨(Value.slice A t.length B).ownBlock=some k) (V.alloc (.cells #[.int .i64 j,.slice Z (kZ m).length Q] 96)) w9:=ag.eU bC λk hk=>.inr hk
 have hat:∀k,v9.ownBlock=some k->(Value.slice A t.length B).ownBlock=some k∨w.heap.size<=k:=λk hk=>by
  rcases cY with e|e
  ·exact .inl (e▸hk)
  ·rw[e]at hk;injection hk with hk;exact .inr af
 have p8:=ae hat
 have hgo:=λk hk=>(H.blk k hk).1
 have I:=bG.aW (ag.eU (X:=λk=>(Value.slice A t.length B).ownBlock=some k) bC λk hk=>hk) λhk=>by have:=(bT gb hk).1;omega
 obtain⟨R,Y,rfl⟩:=H.slice
 generalize (t++[(j,kZ m)]).length=M at *
 have q9:=I.cell
 have z9:=I.frozen
 have hbF:=I.aQ 0 (.slice R M Y)
 have uF:=((ag.aT mm (λk=>k=gb∨(Value.slice A t.length B).ownBlock=some k)).tr u9).tr (ag.bM (X:=λk=>k=gb∨(Value.slice A t.length B).ownBlock=some k) (.inl rfl) 0 (.slice R M Y))
 have hOF:=ae (H.up (Y':=λk=>k=gb) (ag.bM (X:=λk=>k=gb) rfl 0 (.slice R M Y)) (λk e=>by subst e;exact hgb) λk e=>by subst e;exact hgb)
 have UF:=ae uF
 have BF:=ae hbF
 clear H bC cY aY bH hr hat u9 uF hbF q2 I
 go_wp2
 go_end0
 exact⟨rfl,_,BF.aa,by rw[U.aa];exact hOF.aa,UF.aa,p8.aa⟩
structure ajY(B B':aZ):Prop where
 me:B'.me=B.me
 par:B'.par=B.par
 ah:B'.ah=B.ah
 calls:B'.calls=B.calls
 bO:B'.bO=B.bO
 refused:B'.refused=B.refused
 told:B'.told=B.told
 life:B'.st.life=B.st.life
theorem nH.w{B B'}(h:nH B B'):ajY B B':=⟨h.me,h.par,h.ah,h.calls,h.bO,h.refused,h.told,h.life⟩
theorem KU{B}(y:bE B):ajY B (gB B):=by
 have u:=y.open';unfold gB;split
 ·have A:=Iy y λx t=>(u.2.1 x t).2
  have C:=KS (kids:=dy B) (p:=(yM B,[])) A.1 λx t=>(u.1 x t).2
  have j:=A.2.tr C.2.1;exact⟨j.me,j.par,j.ah,j.calls,j.bO,j.refused,j.told,j.life⟩
 ·exact (nH.rf B).w
def qK(B:aZ):List (Int×List UInt8):=if mT B then []else tE (tJ B) (Ad B)
def sE(B:aZ)(l:List Int):List (Int×List UInt8):=l.flatMap λk=>tE k (uh B k)
def sF(B:aZ):List (Int×List UInt8):=qK B++sE B (oo B)
theorem ad6 k m:(tE k m).length<=1:=by grind [tE]
theorem U6 B:∀l:List Int,(sE B l).length<=l.length
 | []=>by simp[sE]
 | k :: l=>by have:=ad6 k (uh B k);have:=U6 B l;simp only[sE,uy,dx,fg]at *;omega
theorem ad7 B:(qK B).length<=1:=by grind [qK,ad6]
theorem axI{B}{m:Nat}(t:B.me=(m:Int))(j:m<B.par.length):tJ B=B.par[m]:=by
 grind [tJ]
theorem ard{M p B w}(h:bB M p B w)(U:bE B)(hF:lH B)(gV:B.told.length<=800000) :
 Calls prog 46 #[.pointer (some ⟨p.g,0,none⟩)] w λe w'=>∃v' p',e=.returned v'/\bB (λk=>M k∨bw p' k) p' (gB B) w'/\ag (bw p) w w'/\p'.key=p.key/\(∀k,bw p' k->bw p k∨w.heap.size<=k)/\Fx (λk=>M k∨bw p' k) (λW=>aq AW (sF (gB B)) v' W) w':=by
 have C1:=ae (acG h U)
 have hS:=KU U
 have C:=KT U
 have Oa:=Pu U hF
 have hlo:=h.low
 have Y6:=λk hk=>h.low k (h.sub k hk)
 have htW:(gB B).told.length<=800000:=by rw[hS.told];exact gV
 generalize gB B=t at *
 obtain⟨g,hg⟩:∃g,g=p.g:=⟨_,rfl⟩
 rw[<- hg]at C1⊢
 have HG:=ae hg
 clear h U hF gV hS hg
 go_enter func46,ntmps46
 go_wp2_with fail
 refine C1.aa.mono ?_
 rintro e G⟨rfl,hN⟩
 obtain⟨p',pH,I,jK,xf⟩:=hN
 have dw:=ai.new G 92 #[.slice none 0 0]
 have kA:=dw.aU
 have Gp:(G.alloc (.cells #[.slice none 0 0] 92)).heap.size=G.heap.size+1:=aj
 have uY:bB (λk=>(M k∨bw p' k)∨k=G.heap.size) p' t (G.alloc (.cells #[.slice none 0 0] 92)) :=
  pH.far (X:=λ_=>False) (ag.aT kA _) (λ_ h=>h.elim) (λ_ h=>h.elim) (λk hk E=>E.resolve_right af) (λk hk=>.inl (.inr hk)) λk hk=>by
   rcases hk with hk|hk
   ·have:=pH.low k hk;omega
   ·omega
 have S7:=ae kA
 have F:=pH.low
 have u1s:=I.size
 clear C1 pH
 go_upto_region 5 with (fail)
 generalize G.alloc _=S at *
 generalize RI:G.heap.size=gb at *
 have jJ:=(Bv jK).trans HG.aa.symm
 obtain⟨base,hbase⟩:∃base,base=S.heap.size:=⟨_,rfl⟩
 have hgb:gb<base:=af
 have TD:Hid (∀W,ag (λk=>k=gb∨base<=k) S W->bB (λk=>(M k∨bw p' k)∨k=gb) p' t W):=ae λW u =>
  have u':ag (λk=>k=gb) S W:=⟨u.os,u.tape,u.output,u.size,λk h1 h2=>u.block k h1 λh=>h.elim h2 λh=>af⟩
  uY.far u' (λk hk=>.inr hk) (λk hk E=>by have:=F k (.inr E);omega) (λ_ _ h=>h) (λk hk=>.inl (.inr hk)) λk hk=>bz (uY.low k hk) u.size
 have HB:=ae hbase
 have HV2:=ae uY
 have HX:=ae (And.intro I (And.intro jK (And.intro xf (And.intro F RI))))
 clear uY I jK xf F RI
 go_wp2_with fail
 have CR:=ae (O7 HV2.aa)
 rw[jJ]at CR
 refine CR.aa.mono ?_
 rintro e H⟨rfl,k3⟩
 have u3:ag (λk=>k=gb∨base<=k) S H:=ag.aT k3 _
 have Js:=dw.ay k3
 have BH:=ae u3
 have kN:=aB.nil (λk=>k<base) base 96 AW H
 have ix:=k3.size
 clear CR dw
 go_upto_if 14 with (fail)
 go_cut [13,14]from 15 to 48 (fun _ _ W=>∃o,ai W gb 92 #[o]/\aB (fun k=>k<base) base 96 AW (qK t) o W/\ag (fun k=>k=gb∨base<=k) S W)
 case first =>
  have HR:Hid (qK t=if mT t then []else tE (tJ t) (Ad t)):=ae rfl;generalize qK t=OU at *;cases hr:mT t
  ·have HO:Hid (OU=tE (tJ t) (Ad t)):=ae (by rw[HR.aa,hr];rfl);clear hr HR;have D:=TD.aa H u3;have q:=D.q;have gU:=C.dk.len;have hrl:=C.fD;have CM:=C.me;have hpl:=(sA C.tr).2;have pY:(dy t).length<=16:=by unfold dy;rw[List.length_map];exact bn (IC _ _) (sA C.tr).2
   simp only[fA,dC,decide_eq_true_eq]at CM;obtain⟨mn,kK⟩:=Int.eq_ofNat_of_zero_le CM.1;have Ob:mn<t.par.length:=af;have Oc:=ae (axI kK Ob);have CL:=ae λW (k:K H W)=>Uy (D.st k) C
   have CA:=ae λW (k:K H W)=>acF (D.st k) C
   have HD:=ae λW (k:K H W)=>D.bK.at k
   have EC:=D.bK.now.par;have hs1:=av D.bK.now.list;have fG:=av D.bK.now.prom;have fc:=av D.bK.now.fD;have NX:=ae D;rw[jJ]at q CL CA;obtain⟨g',gl,gd,gr,gt,vd,vr,vp,vh,vl,vq,va,vt,vf,vw,kr⟩:=p';simp only at q HD EC hs1 fG fc;simp only[G4,kK]at q;obtain⟨Al,cl,rfl⟩:=hs1;obtain⟨Aq,cq,rfl⟩:=fG;obtain⟨Af,cf,rfl⟩:=fc;obtain⟨Ap,cp,rfl,ME,-⟩:=EC;obtain⟨bp,op,rfl,O⟩:=ints_at ME af;have R:=λW (k:K H W)=>O W k mn Ob
   have vL:(mn:Int)<t.par.length:=af;have hw:=ajJ t.st.list.length af;have HMN:=ae kK;clear D O ME CM kK u3;go_wp2_with fail
   have qs:=And.intro q (And.intro R (And.intro vL hw));refine dV 33 ?_;iterate 28 refine au.i ?_
   refine au.op (λv W=>aq yi (dy t) v W) (λ_ _ _ h k=>bo h k) (λV W kW hp=>?_) ?_
   ·(try simp only[cF,aO,aR,bW,bY,aJ]at hp)
    simp[bR,aF,List.lookup,hp,cW,execOp,aG,q,R,vL,hw,go_sem];refine (CL.aa W kW).mono ?_;exact aiA
   refine au.op (λv W=>aq oG (Ja t.st.prom t.refused (dy t)) v W) (λ_ _ _ h k=>bo h k) (λV W kW hp=>?_) ?_
   ·(try simp only[cF,aO,aR,bW,bY,aJ]at hp)
    simp[bR,aF,List.lookup,hp,cW,execOp,aG,q,R,vL,hw,go_sem];refine (aqX t.st.prom t.refused (dy t) _ _ _ W (HD.aa W kW).prom (HD.aa W kW).fD hp.2.2.1 af af af (λm hm=>by have:=(C.last hm).2.1;omega)).mono ?_;rintro e w4⟨v4,rfl,hO,k4⟩;exact⟨_,rfl,hO.aq,k4⟩
   refine au.i ?_;refine au.op (λv W=>aq aV (lU t) v W) (λ_ _ _ h k=>bo h k) (λV W kW hp=>?_) ?_
   ·(try simp only[cF,aO,aR,bW,bY,aJ]at hp)
    simp[bR,aF,List.lookup,hp,cW,execOp,aG,q,R,vL,hw,go_sem];refine (CA.aa W kW).mono ?_;exact aiA
   refine au.op (λv W=>mj (Ad t) v W) (λ_ _ _ h k=>X7 h k) (λV W kW hp=>?_) ?_
   ·simp only[cF,aO,aR,bW,bY,aJ]at hp;obtain⟨Fe,h29,h31,-⟩:=hp;obtain⟨A29,c29,e29⟩:=av h29;obtain⟨A31,c31,e31⟩:=av h31;simp[bR,aF,List.lookup,Fe,e29,e31,cW,execOp,aG,cT,go_sem];rw[e29]at h29;rw[e31]at h31;exact⟨_,_,_,_,_,_,rfl,h29,h31,gI _ _,gI _ _,gI _ _,gI _ _⟩
   clear qs;intro V W kW hA;simp only[aO,aR,cC,aJ,Nat.reduceAdd]at hA;obtain⟨f0,f1,f2,f3,f4,f5,f6,f7,f8,f9,f10,f11,f12,f13,f14,f15,f16,f17,f18,f19,f20,f21,f22,f23,f24,f25,f26,f27,f28,f29,f30,f31,f32,-⟩:=hA;have aY:=Js.ay kW;have nu:=kW.size;have CS:=ae (acN (tJ t) (Ad t) _ aY (kN.st kW) f32 (acK C Oa) hgb af aj);rw[Oc.aa]at CS;clear f1 f2 f3 f4 f5 f6 f7 f8 f9 f11 f12 f13 f14 f15 f16 f17 f18 f19 f20 f21 f22 f23 f24 f25 f26 f27 f28 f29 f30 f31 f32 CL CA q R;refine aH.call _ _ rfl (by simp[aF,List.lookup,bj,f0,f10,execOp,aG,go_sem];exact⟨rfl,rfl⟩) ?_;refine CS.aa.mono ?_;rintro e L⟨rfl,o',il,J,u5,-⟩;refine⟨_,rfl,?_⟩;refine aH.nil ?_;simp only[fZ,Act.put,sC,rI,rH,Nat.reduceAdd,bj];have U5:=ae ((BH.aa.tr (ag.aT kW (λk=>k=gb∨base<=k))).tr (u5.more λk hk=>hk.imp id λh=>yC));rw[aO,<- Oc.aa,<- HO.aa]at J;clear CS f0 f10 u5;go_wp2_with fail
   go_meet
   case rel=>exact⟨_,il,J,U5.aa⟩
  ·have HO:Hid (OU=[]):=ae (by rw[HR.aa,hr];rfl);clear hr HR;go_wp2_with fail
   go_meet
   case rel=>exact⟨_,Js,by rw[HO.aa];exact kN,BH.aa⟩
 case rest =>
  obtain⟨o,hbo,hO,u4⟩:=hcut;have Hz:=TD.aa wc u4;have CK:=ae (Uv Hz C);rw[jJ]at CK;have pY:(oo t).length<=16:=bn (IC _ _) (sA C.tr).2;have h0l:=ad7 t;have HX0:Hid (sF t=qK t++sE t (oo t)):=ae rfl;have hwz:=u4.size;clear Hz Js kN k3 u3 BH ix;go_wp2_with fail
  refine CK.aa.mono ?_;rintro e L⟨v5,rfl,J,k5⟩;generalize oo t=y at *;obtain⟨A5,c5,rfl⟩:=J.slice;have tU:=ae (J.fx λ_ h=>h);have bT:=hO.blk;have fL:=hbo.lt;have il:=hbo.ay k5;have Ey:aB (λk=>k<base) base 96 AW (qK t++sE t (y.take 0)) o L:=by have:=hO.st k5;simpa [sE]using this
  have u5:=ae (u4.tr (ag.aT k5 _));have uz:=k5.size;have hU5:=ag.rf (λk=>k=gb∨o.ownBlock=some k) L;clear CK J hbo hO u4;go_wp2_with fail
  go_loopw [6,52] (fun _ i W=>∃(j:Nat) (Z:Value),j<=y.length/\i=.int .i64 j/\ai W gb 92 #[Z]/\aB (fun k=>k<base) base 96 AW (qK t++sE t (y.take j)) Z W/\ag (fun k=>k=gb∨o.ownBlock=some k) L W/\∀k,Z.ownBlock=some k->o.ownBlock=some k∨L.heap.size<=k) (fun _ i _=>y.length-(intOf i).toNat)
  case atStart=>exact⟨0,o,af,rfl,il,Ey,hU5,λ_ h=>.inl h⟩
  case round =>
   clear il Ey hU5;obtain⟨j,Z,hj,rfl,hb,hO,u,kJ⟩:=hrel;have T:=u5.aa.tr (u.more λk hk=>hk.imp id λh=>(bT k h).1);have aFb:=T.size;have hus:=u.size;by_cases hlt:j<y.length
   ·have aP:(j:Int)<y.length:=af;have hl:=(tU.aa.up u λk hk=>by rcases hk with hk|hk;omega;exact (bT k hk).2).now;obtain⟨A,c,e,hl,-⟩:=hl;injection e with e1 e2 e3;subst e1;clear e2 e3;obtain⟨b,off,rfl,O⟩:=ints_at hl af;have cj:=O wr (K.rf _) j hlt;have hV:=TD.aa wr T;have Q:=ao0 hV C Oa.nd htW y[j];have hcf:=acb C y[j];have HS:Hid (qK t++sE t (y.take (j+1))=(qK t++sE t (y.take j))++tE y[j] (uh t y[j])):=ae (by
     unfold sE;rw[gJ hlt,List.flatMap_append,<- eu];simp only[uy,List.flatMap_nil,List.append_nil])
    have N8:=U6 t (y.take j);have yh:(qK t++sE t (y.take j)).length<=1000:=by rw[dx];rw[qI]at N8;omega
    rw[jJ]at Q;have Q:=ae Q;generalize y[j]=kd at *;generalize qK t++sE t (y.take j)=os at *;generalize uh t kd=cm at *;clear O hl hV N8;go_wp2_with fail
    refine Q.aa.mono ?_;rintro e w6⟨v6,rfl,zj,Y⟩;have jH:=hb.ay Y;have tM:=Y.size;have C7:=ae (acN kd cm v6 jH (hO.st Y) zj hcf hgb af yh);obtain⟨m1,m2,m3,m4,m5,m6,rfl,-⟩:=zj;clear Q cj hb hO;go_wp2_with fail
    refine C7.aa.mono ?_;rintro e w7⟨rfl,o7,jg,j9,u7,RZ⟩;rw[<- HS.aa]at j9;have hU7:=ae ((u.tr (ag.aT Y _)).gF u7 λk hk E=>E.imp id λh=>(kJ k h).resolve_right af);have Th:=ae λk hk=>(RZ k hk).elim (λh=>kJ k h) λh=>.inr af
    clear C7 RZ u7 kJ;go_wp2;go_roundw
    case rel=>exact⟨j+1,o7,af,bI,jg,j9,hU7.aa,Th.aa⟩
    case measure=>simp[intOf];omega
   ·have aP:¬(j:Int)<y.length:=af;obtain rfl:j=y.length:=af;rw[nC,<- HX0.aa]at hO;obtain⟨Ao,co,rfl⟩:=hO.slice;have q:=hb.cell;obtain⟨I,hkey,je,F,RI⟩:=HX.aa;have HF:=ae (show bB (λk=>M k∨bw p' k) p' t wr from (TD.aa wr T).less (λk hk=>.inr hk) λk hk=>.inl hk);have hUF:=((I.tr (ag.aT S7.aa _)).gF T λk hk E=>by
     have:=F;rcases E with E|E <;> omega)
    have HU:=ae hUF;have zB:=ae ((hO.fx λ_ h=>h).less (N:=λk=>M k∨bw p' k) λk hk=>by have:=F k hk;omega);have HK:=ae hkey;have E1:=ae je;clear hO I hkey je F RI T hUF;go_wp2;go_ret;first|exact⟨_,rfl,p',HF.aa,HU.aa,HK.aa,E1.aa,zB.aa⟩|exact⟨_,p',rfl,HF.aa,HU.aa,HK.aa,E1.aa,zB.aa⟩
abbrev pI:=(Int×Int)×List (List UInt8)
def fI(L:List pI)(k:Int×Int):Option (List (List UInt8)):=(L.find? λp=>decide (p.1=k)).map (·.2)
def iF(L:List pI)(k:Int×Int)(l:List (List UInt8)):List pI:=L.map λp=>if p.1=k then (p.1,l)else p
def pP(L:List pI)(k:Int×Int)(b:List UInt8):List pI:=match fI L k with
 | some l=>if l.length<8 then iF L k (l++[b])else L
 | none=>L
structure Kn where
 up:Option aZ
 dk:pC
structure bF where
 par:List Int
 ah:List Int
 cz:List pI
 eX:List Kn
 cur:List Int
 got:List (List (List (List cZ)))
structure pU(O:bF):Prop where
 tr:fk O.par=true
 hm:jt O.par O.ah=true
 ln:O.eX.length=O.par.length
 lc:O.cur.length=O.ah.length
 lg:O.got.length=O.ah.length
def gX(O:bF)(n:Int):Bool:=fA O.par n
def cL(O:bF)(n:Int):Option aZ:=if gX O n then (O.eX[n.toNat]?).bind (·.up)else none
def jU(O:bF)(n:Int)(x:Kn):bF:={ O with eX:=O.eX.set n.toNat x }
def iw(O:bF)(n:Int)(B:aZ):bF:=jU O n ⟨some B,B.dk⟩
def jP(O:bF)(c:Int):Bool:=decide (0<=c)&&decide (c<(O.ah.length:Int))
def mV(O:bF)(c:Int):Int:=(O.ah[c.toNat]?).getD 0
def rL{α:Type}(O:bF)(c:Int)(z:α)(f:aZ->aZ×α×Int):bF×α×Int :=
 if jP O c then (match cL O (mV O c)with|none=>(O,z,210)|some B=>(iw O (mV O c) (f B).1,(f B).2))else (O,z,1)
def vM{α:Type}(O:bF)(c:Int)(a:aS)(z:α)(f:aZ->aZ×α×Int):bF×α×Int :=
 if jP O c&&(cL O (mV O c)).isSome&&decide (a.1≠mV O c)then (O,z,1)else rL O c z f
def jz(O:bF)(c:Int):bF×aS×Int:=rL O c (0,0,0) λB=>tz B c
def y8(O:bF)(c:Int)(n:Nat)(f:List dH):bF×aS×Int:=rL O c (0,0,0) λB=>yX B c n f
def ou(O:bF)(c:Int)(a:aS)(f:List eI->List eI×Int):bF×Unit×Int:=vM O c a () λB=>((fK B (f B.aC)).1,(),(fK B (f B.aC)).2)
def yG(O:bF)(c:Int)(a:aS):Int×Int:=let r:=vM O c a (0:Int) λB=>(B,FZ B a,0);r.2
def jr(O:bF)(c:Int):bF×List (List cZ)×Int :=
 if jP O c then (match cL O (mV O c)with
  | none=>(O,[],210)
  | some B =>
   let r:=ot B c ((O.cur[c.toNat]?).getD 0)
   if r.2.2=0 then ({ O with cur:=O.cur.set c.toNat r.2.1,got:=if r.1=[]then O.got else O.got.modify c.toNat λg=>g++[r.1] },r.1,0)else (O,[],r.2.2))
 else (O,[],1)
def lV(O:bF)(n:Int):bF×Int :=
 if gX O n then (match cL O n with
  | none=>(O,210)
  | some B=>({ iw O n (gB B)with cz:=(sF (gB B)).foldl (λL m=>pP L (n,m.1) m.2) O.cz },0))
 else (O,1)
def jO(O:bF)(a b:Int):bF×Int:=match fI O.cz (a,b)with
 | none=>(O,140)
 | some []=>(O,141)
 | some (m :: l) =>
  let P:={ O with cz:=iF O.cz (a,b) l }
  match cL O b with
  | none=>(P,210)
  | some B=>(iw P b (iC B a m).1,(iC B a m).2)
def oW(O:bF)(a b:Int):Nat:=((fI O.cz (a,b)).getD []).length
def F9(a b:Int):Nat->bF->bF
 | 0,O=>O
 | k+1,O=>F9 a b k (jO O a b).1
def yN(O:bF)(n:Nat):bF:=if (lV O n).2=0 then (List.range O.par.length).foldl (λO (t:Nat)=>if t=n then O else F9 n t (oW O n t) O) (lV O n).1 else O
def xB(O:bF):bF:=((List.range O.par.length).reverse++List.range O.par.length).foldl yN O
def sB(O:bF)(n:Int):bF×Int:=if gX O n then (match cL O n with|none=>(O,210)|some B=>(jU O n ⟨none,B.dk⟩,0))else (O,1)
def Ie(d:pC):dA:=(js bU d.eZ).getD bU
def qL(O:bF)(n:Int):bF×Int :=
 let d:=((O.eX[n.toNat]?).map (·.dk)).getD ⟨[],0⟩
 if ir (cM (bP (Ie d)))<=d.room then (iw O n (oV n O.par O.ah ⟨cM (bP (Ie d)),d.room⟩ (bP (Ie d))),0)else (O,90)
def lR(O:bF)(n:Int):bF×Int:=if gX O n then (if (cL O n).isSome then (O,210)else qL O n)else (O,1)
def kT(O:bF)(n:Int):dA:=if gX O n then (match cL O n with|some B=>B.st|none=>((O.eX[n.toNat]?).map λx=>Ie x.dk).getD bU)else bU
def Jf(O:bF)(n:Int):Nat:=(kT O n).prom.length+(match cL O n with|some B=>(B.aC.filter (·.asked)).length+B.waits.length|none=>0)
def Cg(par:List Int):List pI:=(List.range par.length).tail.flatMap λ(k:Nat)=>let p:=(par[k]?).getD 0;[(((k:Int),p),[]),((p,(k:Int)),[])]
def jV(par ah:List Int)(room:Nat):bF :=
 ⟨par,ah,Cg par,(List.range par.length).map λ(n:Nat)=>let d:pC:=⟨cM (bP bU),room⟩;⟨some (oV n par ah d (bP bU)),d⟩,ah.map λ_=>0,ah.map λ_=>[]⟩
structure gh(B B':aZ):Prop where
 list:B.st.list <+: B'.st.list
 ab:B.st.ab <+: B'.st.ab
 life:B'.st.life=B.st.life
theorem gh.rf B:gh B B:=⟨List.prefix_refl _,List.prefix_refl _,rfl⟩
theorem gh.tr{A B C}(h:gh A B)(k:gh B C):gh A C:=⟨h.list.trans k.list,h.ab.trans k.ab,k.life.trans h.life⟩
structure iG(B:aZ):Prop where
 ab:∀a∈B.st.ab,bV B.st.list a=false
 prom:B.st.prom.length<=6
theorem asM{l a b}(h:dJ l a=false)(hb:b∈l):b≠a:=by
 grind [dJ]
theorem axJ{s t r}(hk:r.kind≠1)(e:dZ s r=some t)(y:∀a∈s.ab,bV s.list a=false):s.list <+: t.list/\s.ab <+: t.ab/\t.life=s.life/\(∀a∈t.ab,bV t.list a=false)/\(t.prom.length<=s.prom.length+(if r.kind=3 then 1 else 0)):=by
 have C:=ahY hk e;unfold dZ at e;rw[if_neg hk]at e;split at e
 ·rename_i A;unfold xR at e;split at e
  ·cases e
  split at e
  ·cases e
  split at e
  ·cases e
  rename_i u B;injection e with e;subst e;refine⟨List.prefix_append _ _,List.prefix_refl _,rfl,λa j=>?_,?_⟩
  ·grind [bV,Bool.or_eq_false_iff,asM]
  ·grind [dZ,bV,ar,ja]
 split at e
 ·grind [dZ,bV,xS]
 split at e
 ·grind [dZ,bV,xT,iP,ja]
 ·grind [dZ,bV,zq,iP,ja]
theorem ad8{B r}(hk:r.kind≠1)(y:∀a∈B.st.ab,bV B.st.list a=false):gh B (dz B r).1/\(∀a∈(dz B r).1.st.ab,bV (dz B r).1.st.list a=false)/\(dz B r).1.st.prom.length<=B.st.prom.length+(if r.kind=3 then 1 else 0):=by
 unfold dz;split
 ·split
  ·grind [gh.rf]
  ·rename_i t u;obtain⟨E,A,j,C,D⟩:=axJ hk u y;exact⟨⟨E,A,j⟩,C,D⟩
 ·grind [gh.rf]
theorem PH{B r}(hk:r.kind≠1)(j:r.kind≠3)(h:iG B):gh B (dz B r).1/\iG (dz B r).1:=by obtain⟨a,b,c⟩:=ad8 hk h.ab;rw[if_neg j]at c;exact⟨a,⟨b,bn c h.prom⟩⟩
theorem aeI{B}(h:iG B) x:gh B (mU B x).1/\iG (mU B x).1:=PH Aj Aj h
theorem aut{B}(h:iG B) a:gh B (nY B a).1/\iG (nY B a).1:=by
 have:=PH (B:=B) (r:=jF 4 a) DZ DZ h;unfold nY;split
 ·exact⟨⟨this.1.list,this.1.ab,this.1.life⟩,⟨this.2.ab,this.2.prom⟩⟩
 ·grind [gh.rf]
theorem adm{B}(h:iG B) a:gh B (jy B a)/\iG (jy B a):=by
 grind [jy,PH,jF,gh.rf]
theorem Vx{α:Type}{f}(t:∀B x,iG B->gh B (f B x)/\iG (f B x)):∀(l:List α) (B:aZ),iG B->gh B (l.foldl f B)/\iG (l.foldl f B):=by
 intro l
 induction l with
 | nil=>intro B h;exact⟨gh.rf _,h⟩
 | cons x l j => intro B h;obtain⟨a,b⟩:=t B x h;obtain⟨c,d⟩:=j (f B x) b;exact⟨a.tr c,d⟩
theorem auu{kids p x}(h:iG p.1):gh p.1 (lE kids p x).1/\iG (lE kids p x).1:=by
 grind [lE,aeI,gh.rf,aut]
theorem auv{kids}:∀(l:List aK) (p:aZ×List aK),iG p.1->gh p.1 (l.foldl (lE kids) p).1/\iG (l.foldl (lE kids) p).1:=by
 intro l
 induction l with
 | nil=>intro p h;exact⟨gh.rf _,h⟩
 | cons x l j => intro p h;obtain⟨a,b⟩:=auu (kids:=kids) (x:=x) h;obtain⟨c,d⟩:=j (lE kids p x) b;exact⟨a.tr c,d⟩
theorem aeJ{B}(h:iG B):gh B (gB B)/\iG (gB B):=by
 unfold gB;split
 ·obtain⟨a,b⟩:=Vx (f:=λb x=>(mU b x).1) (λB x h=>aeI h x) (oR B.st B.waits (lU B)).2 B h;obtain⟨c,d⟩:=auv (kids:=dy B) (oR B.st B.waits (lU B)).1 (yM B,[]) b;exact⟨⟨(a.tr c).list,(a.tr c).ab,(a.tr c).life⟩,⟨d.ab,d.prom⟩⟩
 ·grind [gh.rf]
theorem auw:∀(l:List aK) (B:aZ) (n:Nat),iG B->gh B (mA B n l)/\iG (mA B n l):=by
 intro l
 induction l with
 | nil=>intro B n h;exact⟨gh.rf _,h⟩
 | cons x l j =>
  intro B n h;unfold mA;split
  ·split
   ·obtain⟨a,b⟩:=PH (B:=B) (r:=mX n x) Aj Aj h;obtain⟨c,d⟩:=j (dz B (mX n x)).1 ((n+1)%18446744073709551616) b;exact⟨a.tr c,d⟩
   ·grind [gh.rf]
  ·grind
theorem auy{B}(h:iG B) a:gh B (nF B a)/\iG (nF B a):=by
 unfold nF;split
 ·grind [gh.rf]
 ·have j:iG { B with told:=B.told++[a],aC:=fX B.aC a }:=⟨h.ab,h.prom⟩;obtain⟨b,c⟩:=adm j a;exact⟨⟨b.list,b.ab,b.life⟩,c⟩
theorem aqd{s}(t:s.prom.length<=6):∀(l:List aK) (p:List aK×List aS),s.prom.length+p.1.length<=6->s.prom.length+(l.foldl (jS s) p).1.length<=6:=by
 intro l
 induction l with
 | nil=>intro p h;exact h
 | cons x l j =>
  grind [jS]
theorem auz:∀(l:List aK) (p:aZ×List aS),(∀a∈p.1.st.ab,bV p.1.st.list a=false)->p.1.st.prom.length+l.length<=6->gh p.1 (l.foldl i7 p).1/\iG (l.foldl i7 p).1:=by
 intro l
 induction l with
 | nil=>intro p j t;exact⟨gh.rf _,⟨j,aA⟩⟩
 | cons x l y =>
  intro p j t;simp only[fg]at t;have hn:=ad8 (B:=p.1) (r:=uI x) D4 j;have u:gh p.1 (i7 p x).1/\(∀a∈(i7 p x).1.st.ab,bV (i7 p x).1.st.list a=false)/\(i7 p x).1.st.prom.length<=p.1.st.prom.length+1:=by
   unfold i7;split
   ·grind
   ·simp_all [gh.rf,Nat.le_succ]
  obtain⟨a,b⟩:=y (i7 p x) u.2.1 af;exact⟨u.1.tr a,b⟩
theorem awi{B}(h:iG B) l:gh B (wh B l)/\iG (wh B l):=by have j:=aqd h.prom (mY B l) ([],[]) (by simpa using h.prom);obtain⟨a,b⟩:=auz (oP B.st (mY B l)).1 (B,uJ B l++(oP B.st (mY B l)).2) h.ab j;unfold wh tC;exact⟨⟨a.list,a.ab,a.life⟩,⟨b.ab,b.prom⟩⟩
theorem awj{B}(h:iG B) m:gh B (rK B m)/\iG (rK B m):=by obtain⟨D,A⟩:=auw m.entries B m.got h;obtain⟨u,E⟩:=Vx (f:=nF) (λB x h=>auy h x) m.dQ _ A;obtain⟨y,t⟩:=Vx (f:=jy) (λB x h=>adm h x) m.ends _ E;obtain⟨j,C⟩:=awi t m.fe;exact⟨((D.tr u).tr y).tr j,C⟩
theorem adn{B}(h:iG B) j b:gh B (iC B j b).1/\iG (iC B j b).1:=by
 unfold iC;split
 ·split
  ·grind [gh.rf]
  ·rename_i m _;split
   ·have t:iG { B with bO:=oT B.bO j m }:=⟨h.ab,h.prom⟩;obtain⟨a,c⟩:=aeJ t;exact⟨⟨a.list,a.ab,a.life⟩,c⟩
   ·grind [awj,gh.rf]
 ·grind [gh.rf]
theorem awk{B}(h:iG B) c j:gh B (jq B c j).1/\iG (jq B c j).1:=by
 unfold jq;split
 ·exact aiB
 ·grind [gh.rf]
theorem awl{B}(h:iG B) r:gh B (fK B r).1/\iG (fK B r).1:=by unfold fK;exact aiB
def iB(l:List eI):Prop:=∀t∈l,t.asked=false->t.e.kind=1
theorem iB.nil:iB []:=λt h=>by simp at h
theorem iB.erase{l}(h:iB l) k:iB (l.eraseIdx k):=λt j=>h t (List.mem_of_mem_eraseIdx j)
theorem iB.settle{l}(h:iB l) a:iB (fX l a):=by
 unfold fX;split
 ·exact h
 ·exact h.erase _
theorem iB.add{l}(h:iB l) t(u:t.asked=true∨t.e.kind=1):iB (uE l t).1:=by
 unfold uE
 repeat' split
 all_goals first|exact h|skip
 intro s j
 rcases List.mem_append.1 j with j|j
 ·exact h s j
 grind
theorem iB.set{l}(h:iB l) k t(y:t.asked=true∨t.e.kind=1):iB (l.set k t):=λs u=>by
 rcases List.mem_or_eq_of_mem_set u with u|rfl
 ·exact h s u
 ·intro A;rcases y with j|j
  ·rw[A]at j;cases j
  ·exact j
theorem iB.I3{l}(h:iB l) a e:iB (jm l a e).1:=by
 unfold jm;split
 ·exact h
 ·split
  ·exact h
  ·rename_i k t j;repeat' split
   all_goals first|exact h|skip
   refine h.set _ _ ?_;cases hk:t.asked
   ·exact .inr (h t (List.mem_of_getElem? j) hk)
   ·simp
theorem iB.Ga{l}(h:iB l) a:iB (jx l a).1:=by
 unfold jx;split
 ·exact h
 ·split
  ·exact h
  ·exact h.set _ _ (.inl rfl)
structure gj(B:aZ):Prop extends bE B where
 vN:iB B.aC
theorem bE.put{B}(j:bE B){l n}(t:jI l)(hn:n<4611686018427387904):bE { B with aC:=l,calls:=n } :=
 ⟨j.tr,j.me,j.hm,j.dk,t,hn,j.bO,j.told,j.fD,j.waits,j.y6⟩
theorem gj.put{B}(j:gj B){l n}(t:jI l)(hk:iB l)(hn:n<4611686018427387904):gj { B with aC:=l,calls:=n } :=
 ⟨j.tobE.put t hn,hk⟩
theorem gj.call{B}(j:gj B)(hn:B.calls+1<4611686018427387904) c{t}(u:jI t.1)(hk:iB t.1):gj (jq B c t).1:=by
 unfold jq;split
 ·split
  ·exact j.put u hk hn
  ·exact j
 ·exact j
theorem gj.begin{B}(j:gj B)(hn:B.calls+1<4611686018427387904){c}(u:cD c):gj (tz B c).1:=by have t:=j.new;exact j.call hn c (Qa j.tx _ ⟨Wz,t.1,u,t.2.1,t.2.2,B7,B7,B7⟩) (j.vN.add _ (.inr rfl))
theorem gj.ask{B}(j:gj B)(hn:B.calls+1<4611686018427387904){k c}(hk:cD k)(y:cD c){n}(C:n<18446744073709551616){f}(A:∀t∈f,jB t):gj (jq B c (xJ B.aC (rT B k c n f))).1:=by have u:=j.new;exact j.call hn c (Qa j.tx _ ⟨hk,u.1,y,u.2.1,u.2.2,C,A,by simp[rT]⟩) (j.vN.add _ (.inl rfl))
theorem gj.keep{B}(j:gj B){r}(t:jI r.1)(hk:iB r.1):gj (fK B r).1:=by
 unfold fK;split
 ·exact j.put t hk j.calls
 ·exact j
theorem gj.I3{B}(j:gj B){a e}(u:∀x∈e,nJ x)(t:dW a):gj (fK B (jm B.aC a e)).1 :=
 j.keep (aeq (l:=B.aC) j.tx ⟨2,a,0,e,dD⟩ t qA u IH j.vN) (j.vN.I3 a e)
theorem gj.Ga{B}(j:gj B){a}(t:dW a):gj (fK B (jx B.aC a)).1 :=
 j.keep (aeq (l:=B.aC) j.tx ⟨3,a,0,[],dD⟩ t qA aj IH j.vN) (j.vN.Ga a)
theorem U8{B}(h:iB B.aC) r:iB (dz B r).1.aC:=by
 unfold dz;split
 ·split
  ·exact h
  ·show iB (if r.kind=2 then fX B.aC (ar r.e)else B.aC);split
   ·exact h.settle _
   ·exact h
 ·exact h
theorem asN{B}(h:iB B.aC) a:iB (nY B a).1.aC:=by
 unfold nY;split
 ·exact (U8 h _).settle _
 ·exact h
theorem auA{l:List aK}:∀ {B:aZ},iB B.aC->iB (l.foldl (λb x=>(mU b x).1) B).aC:=by
 induction l with
 | nil=>intro B h;exact h
 | cons x l j=>intro B h;exact j (U8 h _)
theorem auB{kids}{l:List aK}:∀ {p:aZ×List aK},iB p.1.aC->iB (l.foldl (lE kids) p).1.aC:=by
 induction l with
 | nil=>intro p h;exact h
 | cons x l j =>
  intro p h
  refine j ?_
  unfold lE
  repeat' split
  all_goals first|exact h|exact U8 h _|exact asN h _
theorem gj.work{B}(j:gj B):gj (gB B):=by
 refine⟨KT j.tobE,?_⟩;unfold gB;split
 ·exact auB (p:=(yM B,[])) (auA j.vN)
 ·exact j.vN
section
variable {P:aZ->Prop}
theorem Va(j:∀B r,P B->P (dz B r).1):∀ {l:List aK} {B:aZ} {n:Nat},P B->P (mA B n l)
 | [],B,n,h=>h
 | x :: l,B,n,h=>by
  unfold mA;split
  ·split
   ·exact Va j (j _ _ h)
   ·exact h
  ·exact Va j h
theorem acO(j:∀B r,P B->P (dz B r).1){B}(h:P B) a:P (jy B a):=by
 grind [dz,jy]
theorem Vb{α:Type}{f:aZ->α->aZ}(j:∀B a,P B->P (f B a)):∀ {l:List α} {B:aZ},P B->P (l.foldl f B)
 | [],_,h=>h
 | a :: l,B,h=>Vb j (l:=l) (j B a h)
theorem ad9(j:∀B r,P B->P (dz B r).1):∀ {l:List aK} {p:aZ×List aS},P p.1->P (l.foldl i7 p).1
 | [],_,h=>h
 | x :: l,p,h=>by
  refine ad9 j (l:=l) ?_;unfold i7;split
  ·exact j _ _ h
  ·exact h
theorem aea(j:∀B r,P B->P (dz B r).1)(u:∀B a,P B->P { B with told:=B.told++[a],aC:=fX B.aC a })(t:∀B l,P B->P { B with refused:=l }){B}(h:P B) m:P (rK B m):=by
 unfold rK wh;refine t _ _ ?_;unfold tC;refine ad9 j ?_;refine Vb (P:=P) (f:=jy) (λB a h=>acO j h a) ?_;refine Vb (P:=P) (f:=nF) (λB a h=>?_) (Va j h);unfold nF;split
 ·exact h
 ·simp_all [acO]
end
def Q5(c:Nat)(B:aZ):Prop:=B.calls=c/\iB B.aC
theorem aqe{c} B r(h:Q5 c B):Q5 c (dz B r).1:=by
 unfold dz;split
 ·split
  ·exact h
  ·refine⟨h.1,?_⟩;show iB (if r.kind=2 then fX B.aC (ar r.e)else B.aC);split
   ·exact h.2.settle _
   ·exact h.2
 ·exact h
theorem aqf{c B}(h:Q5 c B) m:Q5 c (rK B m) :=
 aea aqe (λ_ _ h=>⟨h.1,h.2.settle _⟩) (λ_ _ h=>h) h m
theorem UM{B}(h:lH B)(t:gj B) j b(A:B.told.length+16<=1000000):gj (iC B j b).1/\(iC B j b).1.calls=B.calls:=by
 have D:=(acJ h t.tobE j b A).2.1;suffices u:iB (iC B j b).1.aC/\(iC B j b).1.calls=B.calls from ⟨⟨D,u.1⟩,u.2⟩
 unfold iC;split
 ·split
  ·exact⟨t.vN,rfl⟩
  ·rename_i m hm;have y:=(Pr hm).2;have hfit:=PE hm;split
   ·have g:=Pw (k:=j) t.tobE y hfit;have C:gj { B with bO:=oT B.bO j m }:=⟨g,t.vN⟩;exact⟨C.work.vN,(KU g).calls⟩
   ·split
    ·have:=aqf (c:=B.calls) ⟨rfl,t.vN⟩ m;exact⟨this.2,this.1⟩
    ·exact⟨t.vN,rfl⟩
 ·exact⟨t.vN,rfl⟩
structure lf(B:aZ)(n:Nat):Prop where
 inv:iG B
 fit:lH B
 told:B.told.length<=16*n
 calls:B.calls<=n
section
variable {B:aZ} {n:Nat}
theorem lf.call(h:lf B n) c j:lf (jq B c j).1 (n+1):=by
 have h1:=(awk h.inv c j).2;have h2:(jq B c j).1.told=B.told/\(jq B c j).1.refused=B.refused/\(jq B c j).1.bO=B.bO/\(jq B c j).1.calls<=B.calls+1:=by
  grind [jq]
 exact aiC
theorem lf.keep(h:lf B n) r:lf (fK B r).1 (n+1):=by
 have h1:=(awl h.inv r).2;have h2:(fK B r).1.told=B.told/\(fK B r).1.refused=B.refused/\(fK B r).1.bO=B.bO/\(fK B r).1.calls=B.calls:=by
  grind [fK]
 exact aiC
theorem lf.work(h:lf B n)(j:bE B):lf (gB B) (n+1):=by have t:=KU j;have:=h.told;have:=h.calls;exact⟨(aeJ h.inv).2,Pu j h.fit,by rw[t.told];omega,by rw[t.calls];omega⟩
theorem lf.handle(h:lf B n)(t:gj B) j b(hn:n<=50000):lf (iC B j b).1 (n+1):=by have A:=h.told;have y:=h.calls;have u:=acJ h.fit t.tobE j b af;have C:=UM h.fit t j b af;exact⟨(adn h.inv j b).2,u.1,af,af⟩
end
theorem aeb{α:Type}[DecidableEq α]{k:α}:∀ {ak:List (α×Value)} {i:Nat},gu k ak i=none->∀p∈ak,p.1≠k
 | [],_,_=>aj
 | q :: r,i,h=>by
  unfold gu at h;split at h
  ·cases h
  ·rename_i j;intro p hp;rcases List.mem_cons.1 hp with rfl|hp
   ·exact j
   ·exact aeb h p hp
theorem Cv.put{l ak W}(h:Cv l ak W)(hn:(l.map (·.1)).Nodup){k m v}(hm:mj m v W):Cv (oT l k m) (sG ak k v) W:=by
 have B:=h.1
 cases hi:gu k ak 0 with
 | none =>
  have t:=aeb hi;have A:¬(l.any λp=>decide (p.1=k))=true:=by rw[List.any_eq_true];rintro ⟨p,hp,e⟩;obtain⟨j,hj,rfl⟩:=List.mem_iff_getElem.1 hp;have:=(h.2 j af hj).1;exact t _ (bZ (show j<ak.length by omega)) (this.trans B4)
  unfold oT sG;rw[hi,if_neg A];refine⟨by simp[B],λj E h4=>?_⟩;by_cases hj:j<l.length
  ·rw[List.getElem_append_left (show j<ak.length by omega),List.getElem_append_left hj];exact h.2 j _ _
  ·have e:j=l.length:=by simp at h4;omega
   subst e;rw[List.getElem_append_right af,List.getElem_append_right af];simpa [B]using hm
 | some x =>
  obtain⟨i,G⟩:=x;obtain⟨-,t⟩:=UW hi;rw[Nat.sub_zero]at t;obtain⟨D,t⟩:=List.getElem?_eq_some_iff.1 t;have y:i<l.length:=af;have hk:l[i].1=k:=by rw[<- (h.2 i D y).1,t]
  have A:(l.any λp=>decide (p.1=k))=true:=by rw[List.any_eq_true];exact⟨l[i],bZ y,tk⟩
  unfold oT sG;rw[hi,if_pos A];refine⟨by simp[B],λj E h4=>?_⟩;have hj:j<l.length:=IP;rw[List.getElem_modify,List.getElem_map];by_cases e:i=j
  ·subst e;rw[if_pos rfl,if_pos hk,t];exact⟨rfl,hm⟩
  ·have F:l[j].1≠k:=λC=>e (by
    have:=List.nodup_iff_pairwise_ne.1 hn;rw[List.pairwise_iff_getElem]at this;rcases Nat.lt_trichotomy i j with u|u|u
    ·have g:=this i j (by simpa using y) DR u;simp[hk,C]at g
    ·exact u
    ·have g:=this j i DR (by simpa using y) u;simp[hk,C]at g)
   rw[if_neg e,if_neg F];exact h.2 j _ _
theorem bB.report{M p B w w'}(h:bB M p B w){k m v}(hm:eC encI w' p.gr (sG p.kr k v))(hg:w.grownBy w' (some p.gr))(hn:(B.bO.map (·.1)).Nodup)(A:Fx M (λW=>mj m v W) w):bB M { p with kr:=sG p.kr k v } { B with bO:=oT B.bO k m } w':=by
 obtain⟨C,E,G,D,F⟩:=h.apart;have u:ag (λk=>k=p.gr) w w':=ag.eU hg λk e=>aA
 have t:=u.more λk hk=>h.sub k (hk ▸ .inr (.inl rfl))
 refine⟨h.blk.aW u C,h.lg.aW u λk hk e=>D (e▸hk),hm,h.xb.aW u λe=>h.ne e.symm,λW y=>?_,h.sub,λk hk=>bz (h.low k hk) u.size,h.ne⟩;have j:=h.bK W (t.tr y);exact⟨j.par,j.ah,j.list,j.prom,j.ab,j.aC,j.fD,j.waits,j.bO.put hn (A W (t.tr y))⟩
theorem asO{M p B w}(h:bB M p B w) k{m v}(hn:(B.bO.map (·.1)).Nodup)(y:Fx M (λW=>mj m v W) w) :
 ∃w',(Instr.mapUpdate 159 (.map (some p.gr)) (.int .i64 k) v).run prog w=.ok () w'/\bB M { p with kr:=sG p.kr k v } { B with bO:=oT B.bO k m } w'/\ag (λk=>k=p.gr) w w':=by
 obtain⟨w',u,t,j⟩:=FK (Es (P:=prog) (kt:=3) underlying3) underlying159 h.rep k v
 exact⟨w',u,h.report t j hn y,ag.eU j λk e=>aA⟩
section
variable {P:Program} {Q:Exit->Act->World->Prop}
theorem Jd.aAH{ops G C D A Le t z} F(T:uq ops F=true)
 (hg:∀W W',C W->Below W.heap.size W W'->C W') (hg0:∀W W',D W->Below W.heap.size W W'->D W') (hg1:∀W W',A W->Below W.heap.size W W'->A W')
 (st:∀f∈t,∀v w w',f v w->Below w.heap.size w w'->f v w') (st2:∀j,j≠z->qP F z F.length j=false->∀v w w',tab t j v w->Le w w'->tab t j v w') :
 ∀(l:List Oper) (k:Nat) (E:List (List Nat×List (Nat×Nat))),Jd P G C D A Le (tab t) z k l E->LU P ops G (LV C D A t z) k l E:=by
 intro l
 induction l with
 | nil=>intro k E _;exact trivial
 | cons o r Y =>
  intro k E h
  cases E with
  | nil=>exact False.elim h
  | cons x xs =>
   refine⟨?_,Y _ _ h.2⟩;intro L V w N hcl O ⟨I,H,hp⟩;by_cases J:k=z
   ·subst J;have u:=h.1;rw[if_pos rfl]at u;obtain⟨U,u⟩:=u;rw[N]at H;simp only[Bool.false_eq_true,if_false]at H;have u:=u V w I H λj y=>hp j (O j y)
    have next:∀v w',tab t k v w'->C w'->A w'->Le w w'->LV C D A t k (upd L k) (bj V k v) w':=by
     intro v w' M R Z hb;have hkk:upd L k k=true:=by simp[upd]
     refine⟨R,aA,λj y=>?_⟩;unfold bj;by_cases B:j=k
     ·grind
     ·rw[if_neg B];have Q:=(yz y).resolve_left B;refine st2 j B ?_ _ _ _ (hp j Q) hb;cases hf:qP F k F.length j with
      | false=>rfl
      | true=>rw[IB T hcl _ _ hf Q]at N;cases N
    rw[U,if_pos (show bR V none=true from rfl)];generalize (execOp (aF x.2 G V) (aG o.op o.type)).run P w=q at *;cases q with
    | ok n w' =>
     cases n <;> simp only[Rg]at u <;> simp only[kI]
     case value v=>exact next _ _ u.1 u.2.1 u.2.2.1 u.2.2.2
     case skip=>exact next _ _ u.1 u.2.1 u.2.2.1 u.2.2.2
     case enter f args =>
      apply bS u
      rintro v X⟨M,R,Z,hb⟩
      grind
    | halt x w'=>simp only[Rg]at u
   ·have u:=h.1;rw[if_neg J]at u;have u:=u V w I λj y=>hp j (O j y)
    have next:∀v w',tab t k v w'->Below w.heap.size w w'->LV C D A t z (upd L k) (bj V k v) w':=by
     intro v w' M hb;have hzz:upd L k z=L z:=by simp[upd,Ne.symm J]
     refine⟨hg _ _ I hb,?_,λj y=>?_⟩
     ·grind
     ·unfold bj;by_cases B:j=k
      ·grind
      ·rw[if_neg B];exact UA (Le:=λw w'=>Below w.heap.size w w') st _ _ _ _ (hp j ((yz y).resolve_left B)) hb
    by_cases S:bR V o.guard=true
    ·rw[if_pos S]at u⊢;generalize (execOp (aF x.2 G V) (aG o.op o.type)).run P w=q at *;cases q with
     | ok n w' =>
      cases n <;> simp only[cW]at u <;> simp only[kI]
      case value v=>exact next _ _ u.1 u.2
      case skip=>exact next _ _ u.1 u.2
      case enter f args =>
       apply bS u
       rintro v X⟨M,hb⟩
       grind
     | halt x w'=>simp only[cW]at u
    ·rw[if_neg S]at u⊢;exact next _ _ u (cT _ _)
end
section
variable {P:Program} {Q:Exit->Act->World->Prop}
theorem kI.imp{R t}(h:∀v w,R v w->t v w){q}(j:kI P R q):kI P t q:=by
 cases q with
 | ok n w' =>
  cases n <;> simp only[kI]at j⊢
  case value v=>exact h _ _ j
  case skip=>exact h _ _ j
  case enter f args =>
   apply bS j
   intro v y u
   grind
 | halt x w'=>simp only[kI]at j
end
section
variable {P:Program} {Q:Exit->Act->World->Prop}
def azr(P:Program)(t:Act)(C u:World->Prop)(F:(Nat->Bool)->(Nat->Value)->World->Prop)(φ:Nat->Value->World->Prop)(k:Nat)(op:Op)(ty:TypeId)(gd:Option (Nat×Bool))(al:List Nat)(rd:List (Nat×Nat)):Prop :=
 gd=none/\∀(L:Nat->Bool) (V:Nat->Value) (w:World),(∀j∈al,L j=true)->C w->u w->(∀j,L j=true->φ j (V j) w)->kI P (λv w'=>F (upd L k) (bj V k v) w') ((execOp (aF rd t V) (aG op ty)).run P w)
def azs(P:Program)(t:Act)(F:(Nat->Bool)->(Nat->Value)->World->Prop)(k:Nat)(op:Op)(ty:TypeId)(gd:Option (Nat×Bool))(al:List Nat)(rd:List (Nat×Nat)):Prop :=
 gd=none/\∀(L:Nat->Bool) (V:Nat->Value) (w:World),L k=false->(∀j∈al,L j=true)->F L V w->kI P (λv w'=>F (upd L k) (bj V k v) w') ((execOp (aF rd t V) (aG op ty)).run P w)
def Jg(P:Program)(j:Act)(C B t:World->Prop)(Le:World->World->Prop)(F:(Nat->Bool)->(Nat->Value)->World->Prop)(φ:Nat->Value->World->Prop)(z y:Nat)(u A:List Nat):Nat->List Oper->List (List Nat×List (Nat×Nat))->Prop
 | _,[],_=>True
 | _,_ :: _,[]=>False
 | k,o :: r,x :: xs=>(if k=y then azr P j C t F φ k o.op o.type o.guard x.1 x.2 else (if u.contains k=true then True else azs P j F k o.op o.type o.guard x.1 x.2)/\(if A.contains k=true then True else Jd P j C B t Le φ z k [o] [x]))/\Jg P j C B t Le F φ z y u A (k+1) r xs
def yO(C j u:World->Prop)(t:List (Value->World->Prop))(z y:Nat)(F:(Nat->Bool)->(Nat->Value)->World->Prop)(L:Nat->Bool)(V:Nat->Value)(w:World):Prop:=if L y=true then F L V w else LV C j u t z L V w
theorem Jg.toP{ops a0 C H I Le F t z y J O} u(X:uq ops u=true)
 (hb:∀k∈J,qP u k u.length y=true) (ha:∀k∈O,qP u y u.length k=true) (hz:z∈J) (hzy:z≠y)
 (hg:∀W W',C W->Below W.heap.size W W'->C W') (hg0:∀W W',H W->Below W.heap.size W W'->H W') (hg1:∀W W',I W->Below W.heap.size W W'->I W')
 (st:∀f∈t,∀v w w',f v w->Below w.heap.size w w'->f v w') (st2:∀j,j≠z->qP u z u.length j=false->∀v w w',tab t j v w->Le w w'->tab t j v w') :
 ∀(l:List Oper) (k:Nat) (G:List (List Nat×List (Nat×Nat))),(∀i,ops[k+i]?=l[i]?)->(∀i,u[k+i]?=G[i]?) ->
  Jg P a0 C H I Le F (tab t) z y J O k l G->LU P ops a0 (yO C H I t z y F) k l G:=by
 intro l
 induction l with
 | nil=>intro k G _ _ _;exact trivial
 | cons o r ih =>
  intro k G ho hq h
  cases G with
  | nil=>exact False.elim h
  | cons x xs =>
   have hxk:u[k]?=some x:=hq 0;refine⟨?_,ih _ _ (λi=>by have:=ho (i+1);simpa [Nat.add_assoc,Nat.add_comm 1 i]using this) (λi=>by have:=hq (i+1);simpa [Nat.add_assoc,Nat.add_comm 1 i]using this) h.2⟩;have Z:∀ {L:Nat->Bool} {j:Nat},Closed ops L->(∀i∈x.1,L i=true)->qP u j u.length k=true->L j=true:=by
    intro L j M E D
    cases hn:u.length with
    | zero=>rw[hn]at D;cases D
    | succ n =>
     rw[hn]at D;unfold qP at D;rw[hxk]at D;simp only[Bool.or_eq_true,List.contains_iff_mem,List.any_eq_true]at D;rcases D with D|⟨i,hi,D⟩
     ·grind
     ·grind [IB]
   intro L V w N M E B;by_cases Q:k=y
   ·subst Q;have A:=h.1;rw[if_pos rfl]at A;obtain⟨S,A⟩:=A;unfold yO at B;rw[N]at B;simp only[Bool.false_eq_true,if_false]at B;obtain⟨hc,Y,hp⟩:=B;have hLz:=Z M E (hb z hz);rw[if_pos hLz]at Y;have A:=A L V w E hc Y hp;rw[S,if_pos (show bR V none=true from rfl)];have hkk:upd L k k=true:=by simp[upd]
    refine kI.imp ?_ A;intro v w' h9;unfold yO;rw[if_pos hkk];exact h9
   ·have A:=h.1;rw[if_neg Q]at A;obtain⟨R,T⟩:=A;cases Ko:L y with
    | true =>
     have fu:J.contains k=false:=by
      cases hc:J.contains k with
      | false=>rfl
      | true => have:=IB X M _ _ (hb k DY) Ko;rw[N]at this;cases this
     rw[fu]at R;simp only[Bool.false_eq_true,if_false]at R;obtain⟨S,A⟩:=R;unfold yO at B;rw[if_pos Ko]at B;have A:=A L V w N E B;rw[S,if_pos (show bR V none=true from rfl)];have U:upd L k y=true:=by simp[upd,Ko]
     refine kI.imp ?_ A;intro v w' h9;unfold yO;rw[if_pos U];exact h9
    | false =>
     have hna:O.contains k=false:=by
      cases hc:O.contains k with
      | false=>rfl
      | true => have:=Z M E (ha k DY);rw[Ko]at this;cases this
     rw[hna]at T;simp only[Bool.false_eq_true,if_false]at T;have e:=(Jd.aAH u X hg hg0 hg1 st st2 [o] k [x] T).1;unfold yO at B;rw[Ko]at B;simp only[Bool.false_eq_true,if_false]at B;have e:=e L V w N M E B;have U:upd L k y=false:=by simp[upd,Ne.symm Q,Ko]
     have key:∀v w',LV C H I t z (upd L k) (bj V k v) w'->yO C H I t z y F (upd L k) (bj V k v) w':=by intro v w' h9;unfold yO;rw[U];simpa using h9
     by_cases hw:bR V o.guard=true
     ·rw[if_pos hw]at e⊢;exact kI.imp key e
     ·rw[if_neg hw]at e⊢;exact key _ _ e
theorem aoJ{id ops A w} z y D I C u B Le F l t
 n (hn:A.tmps.size=n) (hm:P.follows .mixedOrders=true) (N:sy ops n=true) (E:uq ops t=true) (J:D.contains z=true) (O:z≠y) (U:y<ops.size)
 (S:D.all (λk=>qP t k t.length y)=true) (T:I.all (λk=>qP t y t.length k)=true)
 (hg:∀W W',C W->Below W.heap.size W W'->C W') (L:∀W W',u W->Below W.heap.size W W'->u W') (Y:∀W W',B W->Below W.heap.size W W'->B W') (M:C w.drew) (hD:u w.drew)
 (st:∀f∈l,∀v w w',f v w->Below w.heap.size w w'->f v w') (st2:∀x∈l.zipIdx,(x.2==z||qP t z t.length x.2)=true∨∀v w w',x.1 v w->Le w w'->x.1 v w')
 (X:Jg P A C u B Le F (tab l) z y D I 0 ops.toList t)
 (fin:∀(V:Nat->Value) (w:World),F (λj=>decide (j<ops.size)) V w->Q .normal (fZ V ops.toList 0 A) w) :
 (Code.region id ops true).wp P Q A w:=by
 have R:∀j,j≠z->qP t z t.length j=false->∀v w w',tab l j v w->Le w w'->tab l j v w':=by
  intro j Z hf v w w' G hm
  unfold tab at *
  cases hj:l[j]? with
  | none=>simp[List.getD_eq_getElem?_getD,hj]
  | some f =>
   simp only[List.getD_eq_getElem?_getD,hj,Option.getD_some]at G⊢;rcases st2 (f,j) (List.mem_zipIdx_iff_getElem?.2 hj)with H|H
   ·grind
   ·exact H v w w' G hm
 refine Ue (yO C u B l z y F) n hn hm N ?_ (as2 t E (Jg.toP t E (λk hk=>List.all_eq_true.1 S k hk) (λk hk=>List.all_eq_true.1 T k hk) (by simpa using J) O hg L Y st R _ _ _ (λi=>aj) (λi=>aj) X)) λV w h=>fin V w ?_
 ·unfold yO;simp only[Bool.false_eq_true,if_false];exact⟨M,fP,λ_ h=>yC⟩
 ·unfold yO at h;simpa [U]using h
end
