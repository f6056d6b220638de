/-
  The walks of wal's Force, Rewrite, Records, Open (layer 10). Conditions: at most two hundred thousand records; what a disk holds are frames, and last.
-/
import Derived.Test.YtoeiinllelipoaaGreatMa12
import Derived.Test.YtoeiinllelipoaaGreatMz
set_option maxRecDepth 100000
set_option maxHeartbeats 16000000
set_option linter.unusedVariables false
set_option linter.unusedSimpArgs false
namespace Go.Proofs.YtoeiinllelipoaaGreat
open Go Go.RowKit Tryz
theorem av2(l:List UInt8)(h:List (List UInt8))(room:Nat):(oA l h room).2=0∨(oA l h room).1=l:=by
 unfold oA uQ;split
 ·split
  ·exact .inl rfl
  ·exact .inr rfl
 ·exact .inr rfl
theorem apb(gl gd:Nat)(vh vr v:Value)(l:List UInt8)(room:Nat)(i:List (List UInt8))(w:World)(h:jY gl gd vh vr l l.length room w)(t:Fx (jg gl gd vh vr) (λW=>ar i6 i v W) w)(S:i.length<=200000)(hb:∀b∈i,b.length<=1000000000) :
 Calls prog 187 #[.pointer (some ⟨gl,0,none⟩),v] w λe w'=>∃B E,e=.returned (.int .i64 (oA l i room).2)/\jY gl gd B E (oA l i room).1 (oA l i room).1.length room w'/\nN gl gd vh vr B E w w':=by
 have u:=ae (aoH gl gd vh vr v l l.length room i w h t S hb)
 have T:=ae (av2 l i room)
 obtain⟨A,c,rfl⟩:=az t.now
 generalize oA l i room=R at *
 clear h t hb
 go_enter func187,ntmps187
 go_wp2_with fail
 refine u.aa.mono ?_
 rintro e D⟨F,M,rfl,j,s⟩
 by_cases h0:R.2=0
 ·have N:=ae j;have q:=j.blk.cell;have Q:=ae (apX gd F R.1 l.length room D j.dk);have O:=ae s;have L:=ae h0;rw[h0];clear h0 j s u;go_wp2_with fail
  refine Q.aa.mono ?_;rintro e V⟨rfl,y,H⟩;obtain⟨G,I⟩:=N.aa.aku y H (aG _);have C:=O.aa.tr I;clear q y H I;go_wp2;go_ret;first
  | exact⟨_,_,by rw[L.aa];rfl,G,C⟩
  | exact⟨by rw[L.aa];rfl,_,_,G,C⟩
 ·have U:(R.2 != 0)=true:=OJ;have J:jY gl gd F M R.1 R.1.length room D:=by have:=T.aa.resolve_left h0;rw[this]at j⊢;exact j
  clear j u;go_wp2;go_ret;first
  | exact⟨_,_,rfl,J,s⟩
  | exact⟨rfl,_,_,J,s⟩
def wZ(l:List UInt8)(h:List (List UInt8))(room:Nat):List UInt8×Int:=if h.all gV then wY l (frames h) room else (l,30)
theorem aoj(gl gd:Nat)(vh vr v:Value)(l:List UInt8)(room:Nat)(rs:List (List UInt8))(w:World)(h:jY gl gd vh vr l l.length room w)(M:Fx (jg gl gd vh vr) (λW=>ar i6 rs v W) w)(rK:rs.length<=200000)(hb:∀b∈rs,b.length<=1000000000) :
 Calls prog 80 #[.pointer (some ⟨gl,0,none⟩),v] w λe w'=>∃O uT,e=.returned (.int .i64 (wZ l rs room).2)/\((wZ l rs room).2=0->jY gl gd O uT (wZ l rs room).1 (wZ l rs room).1.length room w')/\iq gd O (wZ l rs room).1 (wZ l rs room).1.length room w'/\nN gl gd vh vr O uT w w':=by
 have HA:Hid (wZ l rs room=if rs.all gV then wY l (frames rs) room else (l,30)):=ae rfl
 have HD:Hid (wY l (frames rs) room=if (frames rs).length<=room then (frames rs,0)else (l,90)):=ae rfl
 have HF:Hid (yS rs=if rs.all gV then (frames rs,0)else ([],30)):=ae rfl
 generalize wZ l rs room=R at *
 have C1:=ae (aaV rs v w M.now rK hb)
 have V:(yS rs).1.length<=1000000000:=by exact agx
 have H:=ae h
 have Y:=ae M
 have Zi:=ae hb
 obtain⟨A,c,rfl⟩:=az M.now
 have q:=h.blk.cells
 clear h M hb
 go_enter func80,ntmps80
 go_wp2_with fail
 refine C1.aa.mono ?_
 rintro e E⟨v1,rfl,B,D⟩
 generalize yS rs=F at *
 cases hok:rs.all gV
 ·have U:Hid (F=([],30)):=ae agy;have eB:Hid (R=(l,30)):=ae agz;rw[U.aa];have u:Hid (((30:Int)=0->jY gl gd vh vr l l.length room E)/\iq gd vh l l.length room E/\nN gl gd vh vr vh vr w E):=ae ⟨λe=>absurd e au,(H.aa.st D).dk,nN.rf D⟩;clear hok B V;go_wp2;go_ret;exact⟨vh,vr,KY,by rw[eB.aa];exact u.aa⟩
 have U:Hid (F=(frames rs,0)):=ae agA
 have eB:Hid (R=wY l (frames rs) room):=ae agB
 rw[U.aa]at B V⊢
 have J:=ae (H.aa.st D)
 obtain⟨A1,c1,rfl,-⟩:=B.slice
 have Z:=ae (apY gd vh _ l (frames rs) room E J.aa.dk (eN B) V)
 have q1:=q E D
 clear hok q
 go_wp2_with fail
 refine Z.aa.mono ?_
 rintro e y⟨i,rfl,t,I⟩
 obtain⟨a1,a2,a3⟩:=J.aa.apart
 have hx2:=J.aa.blk.bT I.up a1
 obtain⟨n,xs,hnl,Q⟩:=J.aa.row
 replace Q:=eE Q I.up a2
 have N:Hid (nN gl gd vh vr i vr w y):=ae ((nN.rf D).tr ⟨I.up.more λk hk=>.inr (.inr hk),λk hk=>by
  rcases hk with hk|hk|hk
  ·exact .inl (.inl hk)
  ·exact .inl (.inr (.inl hk))
  ·exact (I.new k hk).imp (λh=>.inr (.inr h)) id⟩)
 have sH:Fx (jg gl gd i vr) (λW=>ar i6 rs (.slice A rs.length c) W) y:=Y.aa.to N.aa.up (λ_ h=>h) λk hk hx=>(N.aa.new k hx).resolve_right af
 clear I B q1 HA HF C1 Z
 by_cases hfit:(frames rs).length<=room
 rotate_left
 ·have yw:Hid (wY l (frames rs) room=(l,90)):=ae agC;rw[yw.aa]at t⊢;have u:Hid (((90:Int)=0->jY gl gd i vr l l.length room y)/\iq gd i l l.length room y/\nN gl gd vh vr i vr w y):=ae ⟨λe=>absurd e au,t,N.aa⟩;clear hfit t;go_wp2;go_ret;exact⟨i,vr,Po,by rw[eB.aa,yw.aa];exact u.aa⟩
 have yw:Hid (wY l (frames rs) room=(frames rs,0)):=ae agD
 rw[yw.aa]at t⊢
 have C3:=ae (Td rs _ y sH.now rK Zi.aa)
 have MJ:=ae t
 have q:=hx2.cells
 have ij:=hx2.lt
 clear hfit HD sH Y t
 go_wp2_with fail
 refine C3.aa.mono ?_
 rintro e s⟨j,rfl,b5,S⟩
 obtain⟨css,G,ayV,Eu⟩:=b5
 have L:=hx2.below S ij
 have ayW:j.ownBlock≠some gl:=λe=>by have:=(G.lt gl e).1;omega
 have hgd:gl≠gd:=λe=>a1 (.inl e)
 have pE:i.ownBlock≠some gl:=λe=>by obtain⟨cur,h1⟩:=gg MJ.aa.own e;exact Ph
 have u9:ah (λk=>k=gl) s (s.setCell ⟨gl,1,none⟩ j):=ah.b6 (X:=λk=>k=gl) rfl 1 _
 have C:=MJ.aa.st S
 have T:jY gl gd i j (frames rs) (frames rs).length room (s.setCell ⟨gl,1,none⟩ j) :=
  ⟨⟨C.blk.bT u9 λe=>hgd e.symm,eE C.own u9 λk hk e=>pE xy,C.len,C.room⟩,L.aR 1 j,_,_,TK rs,my (fw _) (eE G u9 λk hk e=>ayW xy)⟩
 have hU:nN gl gd vh vr i j w (s.setCell ⟨gl,1,none⟩ j):=by
  refine N.aa.tr ⟨(ah.bg S _).tr (ah.b6 (.inl rfl) 1 _),λk hk=>?_⟩;rcases hk with hk|hk|hk
  ·exact .inl (.inl hk)
  ·exact .inr (G.lt k hk).1
  ·exact .inl (.inr (.inr hk))
 have u:Hid (((0:Int)=0->jY gl gd i j (frames rs) (frames rs).length room (s.setCell ⟨gl,1,none⟩ j))/\iq gd i (frames rs) (frames rs).length room (s.setCell ⟨gl,1,none⟩ j)/\nN gl gd vh vr i j w (s.setCell ⟨gl,1,none⟩ j)):=ae ⟨λ_=>T,T.dk,hU⟩
 obtain⟨A3,c3,rfl⟩:=az (aT.ar ⟨css,G,ayV,Eu⟩)
 have q3:=L.cell
 have z3:=L.frozen
 clear q hx2 L C T hU G Eu u9 Q
 go_wp2
 go_ret
 exact⟨_,_,Po,by rw[eB.aa,yw.aa];exact⟨λ_=>u.aa.1 (by first|trivial|rfl),u.aa.2⟩⟩
theorem aok(gl:Nat)(vd vr:Value)(i:List (List UInt8))(w:World)(t:ai w gl 224 #[vd,vr])(j:ar i6 i vr w)(B:i.length<=200000)(hb:∀b∈i,b.length<=1000000000) :
 Calls prog 78 #[.pointer (some ⟨gl,0,none⟩)] w λe w'=>∃s,e=.returned s/\aT (λk=>k<w.heap.size) w.heap.size 42 i6 i s w'/\K w w':=by
 have u:=ae (Td i vr w j B hb)
 obtain⟨A,c,rfl⟩:=az j
 have q:=t.cell
 clear j
 go_enter func78,ntmps78
 go_wp2_with fail
 refine u.aa.mono ?_
 rintro e D⟨E,rfl,y,C⟩
 go_wp2
 go_ret
 exact⟨_,rfl,y,C⟩
theorem ap0(gd:Nat)(vh:Value)(i:List (List UInt8))(room:Nat)(w:World)(h:iq gd vh (frames i) (frames i).length room w)(V:∀b∈i,gV b=true) :
 Calls prog 76 #[.pointer (some ⟨gd,0,none⟩)] w λe w'=>∃gl vr,e=.returned (.tuple #[.pointer (some ⟨gl,0,none⟩),.int .i64 0])/\w.heap.size<=gl/\ai w' gl 224 #[.pointer (some ⟨gd,0,none⟩),vr]/\aT (λk=>k<w.heap.size) w.heap.size 42 i6 i vr w'/\iq gd vh (frames i) (frames i).length room w'/\ah (jf gd vh) w w':=by
 have yr:=h.len
 have pF:=h.room
 have T:=ae (apZ gd vh (frames i) (frames i).length room w h)
 have H:=ae h
 clear h
 go_enter func76,ntmps76
 go_wp2_with fail
 refine T.aa.mono ?_
 rintro e t⟨J,rfl,D,O⟩
 have Z:∃A c,J=.slice A (frames i).length c/\Reads t t.heap.size 1 A (frames i).length (dy (frames i))/\(frames i).length<=c:=by
  have S:t.ownsRow w.heap.size 5 1 J (frames i).length (dy (frames i)):=D;have C:=S;rcases S.2 with ⟨rfl,L⟩|⟨g,cap,cur,rfl,-,-,h1,-⟩
  ·exact⟨_,_,by rw[L],by rw[L]at C⊢;exact Reads.xz C,af⟩
  ·exact⟨_,_,rfl,Reads.xz C,h1⟩
 obtain⟨A1,c1,rfl,X,ayX⟩:=Z
 have Q:=ae (apW i _ t A1 c1 rfl X ayX af V)
 clear T D V
 go_wp2_with fail
 refine Q.aa.mono ?_
 rintro e w2⟨s,rfl,M,k2⟩
 have B:=O.tr k2
 have N:=ae (ard gd vh (frames i) (frames i).length room w2 (H.aa.st B))
 have G:=ae M
 clear Q M
 go_wp2_with fail
 refine N.aa.mono ?_
 rintro e j⟨rfl,I,u⟩
 have E:=H.aa.lt
 have R:=O.size
 have F:aT (λk=>k<w.heap.size) w.heap.size 42 i6 i s j:=((G.aa.less λk hk=>bB hk R).up u.up (λk hk=>E k hk) (λk hk=>by have:=E k hk;omega)).low R
 have W:w.heap.size<=j.heap.size:=bq B.size u.up.size
 have y:=(K.rf j).al (.cells #[.pointer (some ⟨gd,0,none⟩),s] 224)
 have hb:=ai.new j 224 #[.pointer (some ⟨gd,0,none⟩),s]
 have U:=F.st y
 have hd4:=I.st y
 have Y:ah (jf gd vh) w (j.alloc (.cells #[.pointer (some ⟨gd,0,none⟩),s] 224)):=((ah.bg B _).tr u.up).tr (ah.bg y _)
 clear F I u y G N
 obtain⟨A2,c2,rfl⟩:=U.slice
 go_wp2
 go_ret2
 exact⟨_,_,rfl,W,hb,U,hd4,Y⟩
theorem axe(base:Nat)(w:World):pw base iL (.slice none 0 0) (.slice none 0 0) (.slice none 0 0) [] [] w :=
 ⟨iF _ _ _ _,iF _ _ _ _,iF _ _ _ _,λb h=>Dw,rfl,rfl,λ_ _=>⟨Each.nil _ _,Each.nil _ _⟩⟩
def FN(l:List (List UInt8)):Prop:=∀(v:Value) (w:World),ar i6 l v w->Calls prog 77 #[v] w λe w'=>∃vl vp va c1 c2,e=.returned (.tuple #[.agg (bS (IY l).1 vl vp va),.int .i64 (IY l).2])/\pw w.heap.size (IY l).1 vl vp va c1 c2 w'/\K w w'
theorem FN.nil:FN []:=by
 intro v w h;obtain⟨D,d,rfl,-,-⟩:=h;rw[show IY []=(iL,0)from rfl];have u:=(ai.new w 52 jG).alloc (.cells jG 52);have s:=ai.new (w.alloc (.cells jG 52)) 52 jG;have E:K w ((w.alloc (.cells jG 52)).alloc (.cells jG 52)):=((K.rf w).al _).al _;rw[World.size_alloc]at s;go_enter func77,ntmps77;go_wp2;go_step3;go_wp2_with fail
 go_step3;generalize World.alloc (World.alloc w _) _=w0 at *;generalize H:w.heap.size=j at u s⊢;have kk:=K.rf w0;go_wp2_with fail
 go_loopw [5,7,8,9,12] (fun f _ _ _ i W=>i=.int .i64 0/\f=.int .i64 0/\K w0 W) (fun _ _ _ _ _ _=>0)
 case atStart=>exact⟨rfl,rfl,kk⟩
 case round =>
  clear kk;obtain⟨rfl,rfl,kr⟩:=hrel;have y:=s.below kr s.lt;have t:=u.below kr u.lt;have q:=y.cell;have z:=t.frozen;have A:=t.cell;have C:=E.tr kr;clear s u;go_wp2;have G:ai (World.setCell (World.setCell (World.setCell (World.setCell wr _ _) _ _) _ _) _ _) j 52 jG:=(((t.aR 0 (.int .u64 0)).aR 1 (.slice none 0 0)).aR 2 (.slice none 0 0)).aR 3 (.slice none 0 0);have B:=K.set (K.set (K.set (K.set C (r:=j) af 0 (.int .u64 0)) (r:=j) af 1 (.slice none 0 0)) (r:=j) af 2 (.slice none 0 0)) (r:=j) af 3 (.slice none 0 0);clear z A q t y;generalize World.setCell (World.setCell (World.setCell (World.setCell wr _ _) _ _) _ _) _ _=I at *;have F:=G.cell;try rw[gS]
  refine bodyPost_ret (v:=.tuple #[.agg jG,.int .i64 0]) (by simp[results,results77,go_sem,F]) rfl ?_;exact⟨_,_,_,_,_,rfl,axe _ _,B⟩
def Jl(lo:Nat)(l:List UInt8)(v:Value)(w:World):Prop:=Own w lo 5 v l
theorem axf(lo:Nat)(l:List UInt8):∀v w w',Jl lo l v w->Below w.heap.size w w'->Jl lo l v w':=λ_ _ _ h k=>fZ h k
theorem adv(x:Rec)(v:Value)(w:World)(h:qh x v w)(hfit:nX x) :
 Calls prog 163 #[v] w λe w' =>
  ∃v',e=.returned (.tuple #[v',.int .i64 (rW x)])/\Own w' w.heap.size 5 v' (tR x)/\K w w':=by
 have y:=ae λW h=>acz x v W h
 have h':=h
 obtain⟨vf,M,rfl,hf,T⟩:=h
 have O:=ai.new w 190 (eH x vf M)
 have u:K w (w.alloc (.cells (eH x vf M) 190)):=(K.rf w).al _
 have I:=ae (ajx h')
 clear h'
 obtain⟨hik,Y,Z,hib,hil,wN⟩:=hfit
 cases hok:gh x
 ·have HE:Hid (rW x=110):=ae E9;have HR:Hid (tR x=[]):=ae KD;rw[hok]at y;clear hok;go_enter func163,ntmps163;go_wp2_with fail
  generalize w.alloc _=w1 at *;refine (y.aa _ (I.aa _ u)).mono ?_;rintro e w2⟨rfl,t⟩;go_wp2;go_ret2;exact⟨_,fL,Vk,u.tr t⟩
 have HE:Hid (rW x=0):=ae E9
 have HR:Hid (tR x=bV x):=ae KD
 have hkk:=AR hok
 rw[hok]at y
 have B:=ae λh=>Un (x:=x) h
 have G:=ae λh=>TX (x:=x) h
 have D:=ae λh=>TY (x:=x) h
 clear hok
 obtain⟨k,n,x,b,l,s⟩:=x
 simp only at O u hf T hik Y Z hib hil wN hkk HE HR y I B G D⊢
 generalize tR ⟨k,n,x,b,l,s⟩=R at *
 generalize bV ⟨k,n,x,b,l,s⟩=E at *
 generalize rW ⟨k,n,x,b,l,s⟩=C at *
 have zE:∀W,K w W->cR x (.agg (aA x vf M)) W:=λW k=>⟨vf,M,rfl,dB _ _ _ _ hf k,aW T k⟩
 have Mq:k=1∨(k=2∨k=3)∨k=4∨k=5:=af
 have yg:k=2∨k=3->bP x=true:=by exact ae3
 clear hkk
 go_enter func163,ntmps163
 go_wp2_with fail
 generalize w.alloc _=w1 at *
 have hz1:=u.size
 obtain⟨lo,F⟩:∃lo,Hid (lo=w.heap.size):=⟨_,ae rfl⟩
 rw[<- F.aa]at hz1
 have HG:Hid (∀W,K w W->lo<=W.heap.size):=ae λW k=>by rw[F.aa];exact k.size
 generalize w.heap.size=g at O⊢
 have qx:=O.cells
 refine (y.aa _ (I.aa _ u)).mono ?_
 rintro e w2⟨rfl,t⟩
 clear hf T y I
 go_upto_region 3 with (fail)
 have BZ:=λW (N:K w2 W)=>qx W (t.tr N)
 have hz2:lo<=w2.heap.size:=bq hz1 t.size
 have p0:=cG (bf k) (fI k)
 have p1:=cG n Y
 refine sR [ag (.pointer (some ⟨g,0,none⟩)),
  ag (.int .i64 (k)),
  ag (.int .u64 (bf k:Nat)),
  sl (aD (bf k)),
  ag (.pointer (some ⟨g,1,none⟩)),
  ag (.int .u64 (n:Int)),
  Jl lo (aD (bf k)++aD n),
  Jl lo (aD (bf k)++aD n)]
  [([],[]),([0],[(10,0)]),([1],[(11,1)]),([2],[(12,2)]),([],[]),([4],[(14,4)]),([3,5],[(13,3),(15,5)]),([6],[(16,6)])] 42 rfl ak ak ak ?Mr ?Ms ?_
 case Mr =>
  simp only[aI]
  and_intros
  all_goals first|exact jN _|exact iQ _|exact axf _ _|exact mz|simp
 case Ms =>
  simp only[mS]
  and_intros
  all_goals try trivial
  all_goals
   intro V W N A
   try simp only[aI,aE,aF,ag]at A
   try simp[aL,aw,List.lookup,A,aE,aF,aS,execOp,ay,ag,aN,N,BZ,go_sem]
  ·exact AY k
  ·exact Vm
  ·refine (tM n A.1 Y af).mono ?_;rintro e w''⟨v',rfl,ho,hb⟩;exact⟨v',rfl,my (bq hz2 N.size) ho,hb⟩
 intro V w3 S A
 have h7:=A 7 aj
 simp only[aE,aF]at h7
 clear A
 simp only[bF,Act.put,cO,cM,cL]
 generalize V 7=v3 at *
 have YX:=ae h7
 replace h7:=eN h7
 clear BZ
 have rz:(aD (bf k)++aD n).length<=100:=aU
 have i:=u.tr (t.tr S)
 replace t:=t.tr S
 clear S
 generalize aD (bf k)++aD n=b3 at *
 obtain eK|FI|Ly:=Mq
 ·subst eK;have L:=YX.aa;rw[<- B.aa rfl,<- HR.aa]at L;have L:=ae L;clear B G D;go_wp2;go_ret2;exact⟨_,fL,by rw[<- F.aa];exact L.aa,i⟩
 ·have Q:=yg FI;have U:=ae (HR.aa.trans (G.aa FI));have hc1:=Hz Q;have gq:nY x=eO x:=by simp[nY,Q]
  have hlx:=Ib Q Z;clear B G D HR;go_upto_region 5 with (fail);rcases FI with rfl|rfl;all_goals
   go_wp2_with fail
   refine (NR x _ _ (zE _ i) Z).mono ?_
   rintro e w4⟨v4,rfl,j,H⟩
   rw[gq]at j
   have J:=eN j
   have Mt:=iQ _ _ _ _ h7 H
   replace i:=i.tr H
   clear j h7
   go_wp2_with fail
   refine (Kc Mt J af af).mono ?_
   rintro e w5⟨v5,rfl,jq,k5⟩
   have X:=i
   rw[<- U.aa]at jq
   have h5:=ae (show Jl lo R v5 w5 from my (HG.aa _ X) jq)
   replace i:=i.tr k5
   clear Mt J jq
   go_wp2
   go_ret2
   exact⟨_,fL,by rw[<- F.aa];exact h5.aa,i⟩
 ·have U:=ae (HR.aa.trans (D.aa Ly));clear B G D HR;go_upto_region 5 with (fail);rcases Ly with rfl|rfl;all_goals
   go_wp2_with fail
   refine (Tc _ _ (b,l,s) _ h7 af ⟨hib,hil,wN⟩).mono ?_
   rintro e w4⟨v4,rfl,j,H⟩
   have X:=i
   rw[<- U.aa]at j
   have J:=ae (show Jl lo R v4 w4 from my (HG.aa _ X) j)
   replace i:=i.tr H
   clear j h7
   go_wp2
   go_ret2
   exact⟨_,fL,by rw[<- F.aa];exact J.aa,i⟩
theorem ap1(s:bA)(v:Value)(w:World)(h:jr s v w)(hz:s.list.length<=300000/\s.prom.length<=300000/\s.ab.length<=300000)(hok:∀r∈eP s,gh r=true/\nX r) :
 Calls prog 79 #[v] w λe w'=>∃v',e=.returned (.tuple #[v',.int .i64 0])/\aX w.heap.size w.heap.size 42 i6 ((eP s).map bV) v' w'/\K w w':=by
 obtain⟨vl,vp,va,rfl,hl,hp,ha⟩:=h
 obtain⟨Al,cl,rfl,hl,-⟩:=hl
 obtain⟨Ap,cp,rfl,hp,-⟩:=hp
 obtain⟨Aa,ca,rfl,ha,-⟩:=ha
 have dC:=ai.new w 52 (bS s (.slice Al s.list.length cl) (.slice Ap s.prom.length cp) (.slice Aa s.ab.length ca))
 have V:K w (w.alloc (.cells (bS s (.slice Al s.list.length cl) (.slice Ap s.prom.length cp) (.slice Aa s.ab.length ca)) 52)):=(K.rf w).al _
 have HL:=ae hl
 have HP:=ae hp
 have HA:=ae ha
 have iZ:=ae hok
 have H1L:=adr s.life
 obtain⟨B,jE⟩:∃R,R=wy s.life:=⟨_,rfl⟩
 have hS:eP s=B++mg s.list++kV s.prom++oP s.ab:=by rw[jE];rfl
 generalize eP s=L at *
 have HS:=ae hS
 have Gq:=ae jE
 rw[<- jE]at H1L
 clear hl hp ha hok jE hS
 go_enter func79,ntmps79
 go_upto_region 2 with (fail)
 generalize w.alloc _=E at *
 generalize im:w.heap.size=gp at dC⊢
 obtain⟨base,hbase⟩:∃b,Hid (b=E.heap.size):=⟨_,ae rfl⟩
 have qp:=dC.cells
 have kk:=K.rf E
 clear dC
 go_upto_if 18 with (fail)
 go_cut [4]from 18 to 24 (fun v4 W=>Hid (aX base 0 190 uh B v4 W)/\K E W)
 case first =>
  by_cases h0:s.life=0
  ·have HQ:Hid (B=[]):=ae (by rw[Gq.aa,wy,if_pos h0]);have h0i:((s.life:Int) != 0)=false:=by rw[h0];rfl
   clear h0;go_wp2;go_meet
   case rel=>exact⟨ae (by rw[HQ.aa];exact aX.nil _ _ _ _ _),kk⟩
  ·have HQ:Hid (B=[⟨1,s.life,eW,0,0,0⟩]):=ae (by rw[Gq.aa,wy,if_neg h0]);have h0i:((s.life:Int) != 0)=true:=aU;have kA:K E (E.alloc (.cells (eH ⟨1,s.life,eW,0,0,0⟩ (.slice none 0 0) (.slice none 0 0)) 190)):=(K.rf E).al _;have xB:base<=(E.alloc (.cells (eH ⟨1,s.life,eW,0,0,0⟩ (.slice none 0 0) (.slice none 0 0)) 190)).heap.size:=by rw[hbase.aa];exact kA.size
   clear h0;go_wp2_with (at_builtin;refine iC rfl _ _ 230 rfl base 190 _ 13 136 Qn (.slice none 0 0) 0 [] rfl (iF _ _ _ _) (E.heap.size+1) _ 1 1 (eH ⟨1,s.life,eW,0,0,0⟩ (.slice none 0 0) (.slice none 0 0)).toList rfl ?c1 ?c2 ?c3 xB ?_)
   case c1=>exact Reads.new E (eH ⟨1,s.life,eW,0,0,0⟩ (.slice none 0 0) (.slice none 0 0)).toList 190 13 1 rfl
   case c2=>and_intros <;> rfl
   case c3=>omega
   intro v9 M eU bJ dc bo;have k9:K E M:=kA.trans (bo.mono Pp);have bG:aX base 0 190 uh B v9 M:=by rw[HQ.aa];exact aX.snoc (S:=uh) (l:=[]) (css:=[]) (lo:=0) rfl (λw' u=>Each.nil _ _) eU bJ pO (λw' u=>⟨_,_,rfl,⟨none,0,rfl,Reads.nil _ _ _ _⟩,iu _ _⟩)
   have zX:=ae bG;clear eU bJ dc bo bG xB kA;go_wp2;go_meet
   case rel=>exact⟨zX,k9⟩
 case rest =>
 obtain⟨Q,kk⟩:=hcut
 go_wp2_with fail
 go_loopw [4,5,6,28] (fun v4 _ _ i W=>∃j:Nat,j<=s.list.length/\i=.int .i64 (j:Int)/\Hid (aX base 0 190 uh (B++mg (s.list.take j)) v4 W)/\K E W) (fun _ _ _ i _=>s.list.length-(intOf i).toNat)
 case atStart=>exact⟨0,af,rfl,ae (by simpa [mg]using Q.aa),kk⟩
 case round =>
  clear kk Q;obtain⟨j,hj,rfl,y,kr⟩:=hrel;by_cases hlt:j<s.list.length
  ·have ba:(j:Int)<(s.list.length:Int):=af;obtain⟨O,U,cs,rfl,dH,hrl,I,d⟩:=dM HL.aa j hlt au;have HT:=ae (asP s.list j hlt);have ya:Hid ((B++mg (s.list.take j)).length<=900001):=ae (by simp only[cT,Kf,od];omega);generalize s.list[j]=x at *;have pG:=V.tr kr;obtain⟨vf,ve,rfl,hf,he⟩:=hrl w (K.rf w);have oy:Hid (∀W,K w W->cR x (.agg (aA x vf ve)) W):=ae λW k=>by exact KW
   have I:wr.cell? ⟨O,U+j*8,none⟩=some (.int .i64 x.kind):=I wr pG;have d:∀i,i<8->wr.cell? ⟨O,U+j*8+i,none⟩=(aA x vf ve)[i]?:=λi hi=>(d wr pG i hi).trans Array.getElem?_toList
   obtain⟨D,F,rfl⟩:=cB hf;obtain⟨C,G,rfl⟩:=az he;have J:=ai.new wr 102 (aA x (.slice D x.f.length F) (.slice C x.es.length G));have H:K wr (wr.alloc (.cells (aA x (.slice D x.f.length F) (.slice C x.es.length G)) 102)):=(K.rf wr).al _;clear hrl dH hf he;go_upto_region 7 with (fail);clear d I;have Y:=y.aa.st H;generalize wr.alloc _=t at *;generalize wr.heap.size=ge at J⊢;replace kr:=kr.tr H;have wT:=V.tr kr;have q5:=J.cell;have Z:=Y.blk;obtain⟨css,hown,hcl,ln⟩:=Y;have jX:=ya.aa;generalize X:B++mg (s.list.take j)=RJ at *;have X:=ae X;have kA:K t (t.alloc (.cells (eH ⟨2,j,x,0,0,0⟩ (.slice D x.f.length F) (.slice C x.es.length G)) 190)):=(K.rf t).al _;have xB:base<=(t.alloc (.cells (eH ⟨2,j,x,0,0,0⟩ (.slice D x.f.length F) (.slice C x.es.length G)) 190)).heap.size:=VU;have T:=λk e=>(Z k e).1
   simp only[hbase.aa]at T;have Rm:=ae λk e=>bq V.size (T k e)
   clear y H J Z T;go_wp2_with (at_builtin;refine iC rfl _ _ 230 rfl base 190 _ 13 136 Qn _ _ _ rfl (pg hown _) (t.heap.size+1) _ 1 1 (eH ⟨2,j,x,0,0,0⟩ (.slice D x.f.length F) (.slice C x.es.length G)).toList rfl ?c1 ?c2 ?c3 xB ?_)
   case c1=>exact Reads.new t (eH ⟨2,j,x,0,0,0⟩ (.slice D x.f.length F) (.slice C x.es.length G)).toList 190 13 1 rfl
   case c2=>and_intros <;> rfl
   case c3=>omega
   intro v9 M eU bJ dc bo;have k9:K E M:=(kr.tr kA).trans (bo.mono Pp);have zX:Hid (aX base 0 190 uh (B++mg (s.list.take (j+1))) v9 M):=ae (by
    rw[HT.aa,<- dG,X.aa];exact aX.snoc (S:=uh) (lo:=0) hcl (λw' u=>ln w' (aH.tr (aH.bg kA _ _) u)) eU bJ pO (λw' u=>ajB (k:=2) (n:=j) (a:=(0,0,0)) (oy.aa w' ((aH.tr (aH.bg kA _ _) u).k wT Rm.aa))))
   exact Pq
  ·have ba:¬(j:Int)<(s.list.length:Int):=af;rw[eT af]at y;have Q:=y;have kk:=kr;clear y kr hj hlt;go_wp2_with fail
   clear ba;go_loopw [4,8,44] (fun v4 _ i W=>∃j:Nat,j<=s.prom.length/\i=.int .i64 (j:Int)/\Hid (aX base 0 190 uh (B++mg s.list++kV (s.prom.take j)) v4 W)/\K E W) (fun _ _ i _=>s.prom.length-(intOf i).toNat)
   case atStart=>exact⟨0,af,rfl,ae (by simpa [kV]using Q.aa),kk⟩
   case round =>
    clear kk Q;obtain⟨j,hj,rfl,y,kr⟩:=hrel;by_cases hlt:j<s.prom.length
    ·have ba:(j:Int)<(s.prom.length:Int):=af;obtain⟨O,U,cs,rfl,dH,hrl,I,d⟩:=dM HP.aa j hlt au;have HT:=ae (asQ s.prom j hlt);have ya:Hid ((B++mg s.list++kV (s.prom.take j)).length<=900001):=ae (by simp only[cT,Kf,OC,od];omega);generalize s.prom[j]=x at *;have pG:=V.tr kr;obtain⟨vf,ve,rfl,hf,he⟩:=hrl w (K.rf w);have oy:Hid (∀W,K w W->cR x (.agg (aA x vf ve)) W):=ae λW k=>by exact KW
     have I:wr.cell? ⟨O,U+j*8,none⟩=some (.int .i64 x.kind):=I wr pG;have d:∀i,i<8->wr.cell? ⟨O,U+j*8+i,none⟩=(aA x vf ve)[i]?:=λi hi=>(d wr pG i hi).trans Array.getElem?_toList
     obtain⟨D,F,rfl⟩:=cB hf;obtain⟨C,G,rfl⟩:=az he;have J:=ai.new wr 102 (aA x (.slice D x.f.length F) (.slice C x.es.length G));have H:K wr (wr.alloc (.cells (aA x (.slice D x.f.length F) (.slice C x.es.length G)) 102)):=(K.rf wr).al _;clear hrl dH hf he;go_upto_region 12 with (fail);clear d I;have Y:=y.aa.st H;generalize wr.alloc _=t at *;generalize wr.heap.size=ge at J⊢;replace kr:=kr.tr H;have wT:=V.tr kr;have q5:=J.cell;have Z:=Y.blk;obtain⟨css,hown,hcl,ln⟩:=Y;have jX:=ya.aa;generalize X:B++mg s.list++kV (s.prom.take j)=RJ at *;have X:=ae X;have kA:K t (t.alloc (.cells (eH ⟨3,0,x,0,0,0⟩ (.slice D x.f.length F) (.slice C x.es.length G)) 190)):=(K.rf t).al _;have xB:base<=(t.alloc (.cells (eH ⟨3,0,x,0,0,0⟩ (.slice D x.f.length F) (.slice C x.es.length G)) 190)).heap.size:=VU;have T:=λk e=>(Z k e).1
     simp only[hbase.aa]at T;have Rm:=ae λk e=>bq V.size (T k e)
     clear y H J Z T;go_wp2_with (at_builtin;refine iC rfl _ _ 230 rfl base 190 _ 13 136 Qn _ _ _ rfl (pg hown _) (t.heap.size+1) _ 1 1 (eH ⟨3,0,x,0,0,0⟩ (.slice D x.f.length F) (.slice C x.es.length G)).toList rfl ?c1 ?c2 ?c3 xB ?_)
     case c1=>exact Reads.new t (eH ⟨3,0,x,0,0,0⟩ (.slice D x.f.length F) (.slice C x.es.length G)).toList 190 13 1 rfl
     case c2=>and_intros <;> rfl
     case c3=>omega
     intro v9 M eU bJ dc bo;have k9:K E M:=(kr.tr kA).trans (bo.mono Pp);have zX:Hid (aX base 0 190 uh (B++mg s.list++kV (s.prom.take (j+1))) v9 M):=ae (by
      rw[HT.aa,<- dG,X.aa];exact aX.snoc (S:=uh) (lo:=0) hcl (λw' u=>ln w' (aH.tr (aH.bg kA _ _) u)) eU bJ pO (λw' u=>ajB (k:=3) (n:=0) (a:=(0,0,0)) (oy.aa w' ((aH.tr (aH.bg kA _ _) u).k wT Rm.aa))))
     exact Pq
    ·have ba:¬(j:Int)<(s.prom.length:Int):=af;rw[eT af]at y;have Q:=y;have kk:=kr;clear y kr hj hlt;go_wp2_with fail
     clear ba;go_loopw [4,10,57] (fun v4 _ i W=>∃j:Nat,j<=s.ab.length/\i=.int .i64 (j:Int)/\Hid (aX base 0 190 uh (B++mg s.list++kV s.prom++oP (s.ab.take j)) v4 W)/\K E W) (fun _ _ i _=>s.ab.length-(intOf i).toNat)
     case atStart=>exact⟨0,af,rfl,ae (by simpa [oP]using Q.aa),kk⟩
     case round =>
      clear kk Q;obtain⟨j,hj,rfl,y,kr⟩:=hrel;by_cases hlt:j<s.ab.length
      ·have ba:(j:Int)<(s.ab.length:Int):=af;obtain⟨O,U,cs,rfl,dH,hrl,I,d⟩:=dM HA.aa j hlt au;have HT:=ae (asR s.ab j hlt);have ya:Hid ((B++mg s.list++kV s.prom++oP (s.ab.take j)).length<=900001):=ae av3;generalize s.ab[j]=x at *;have pG:=V.tr kr;obtain rfl:=hrl w (K.rf w);have I:wr.cell? ⟨O,U+j*3,none⟩=some (.int .i64 x.1):=I wr pG;have d:∀i,i<3->wr.cell? ⟨O,U+j*3+i,none⟩=(#[.int .i64 x.1,.int .u64 (x.2.1:Int),.int .u64 (x.2.2:Int)]:Array Value)[i]?:=λi hi=>(d wr pG i hi).trans Array.getElem?_toList
       have J:=ai.new wr 46 #[.int .i64 x.1,.int .u64 (x.2.1:Int),.int .u64 (x.2.2:Int)];have H:K wr (wr.alloc (.cells #[.int .i64 x.1,.int .u64 (x.2.1:Int),.int .u64 (x.2.2:Int)] 46)):=(K.rf wr).al _;clear hrl dH;go_upto_region 17 with (fail);clear d I;have Y:=y.aa.st H;generalize wr.alloc _=t at *;generalize wr.heap.size=ge at J⊢;replace kr:=kr.tr H;have wT:=V.tr kr;have q5:=J.cell;have Z:=Y.blk;obtain⟨css,hown,hcl,ln⟩:=Y;have jX:=ya.aa;generalize X:B++mg s.list++kV s.prom++oP (s.ab.take j)=RJ at *;have X:=ae X;have kA:K t (t.alloc (.cells (eH ⟨4,0,eW,x.1,x.2.1,x.2.2⟩ (.slice none 0 0) (.slice none 0 0)) 190)):=(K.rf t).al _;have xB:base<=(t.alloc (.cells (eH ⟨4,0,eW,x.1,x.2.1,x.2.2⟩ (.slice none 0 0) (.slice none 0 0)) 190)).heap.size:=VU;have T:=λk e=>(Z k e).1
       simp only[hbase.aa]at T;have Rm:=ae λk e=>bq V.size (T k e)
       clear y H J Z T;go_wp2_with (at_builtin;refine iC rfl _ _ 230 rfl base 190 _ 13 136 Qn _ _ _ rfl (pg hown _) (t.heap.size+1) _ 1 1 (eH ⟨4,0,eW,x.1,x.2.1,x.2.2⟩ (.slice none 0 0) (.slice none 0 0)).toList rfl ?c1 ?c2 ?c3 xB ?_)
       case c1=>exact Reads.new t (eH ⟨4,0,eW,x.1,x.2.1,x.2.2⟩ (.slice none 0 0) (.slice none 0 0)).toList 190 13 1 rfl
       case c2=>and_intros <;> rfl
       case c3=>omega
       intro v9 M eU bJ dc bo;have k9:K E M:=(kr.tr kA).trans (bo.mono Pp);have zX:Hid (aX base 0 190 uh (B++mg s.list++kV s.prom++oP (s.ab.take (j+1))) v9 M):=ae (by
        rw[HT.aa,<- dG,X.aa];exact aX.snoc (S:=uh) (lo:=0) hcl (λw' u=>ln w' (aH.tr (aH.bg kA _ _) u)) eU bJ pO (λw' u=>⟨_,_,rfl,⟨none,0,rfl,Reads.nil _ _ _ _⟩,iu _ _⟩))
       exact Pq
      ·have ba:¬(j:Int)<(s.ab.length:Int):=af;rw[eT af]at y;have Q:=y;have kk:=kr;clear y kr hj hlt;rw[<- HS.aa]at Q;have jX:L.length<=900001:=by rw[HS.aa];simp only[cT,Kf,OC,Us];omega
       obtain⟨A4,c4,rfl,lO,-⟩:=Q.aa.ar;have HR:=ae lO;clear Q lO HL HP HA;generalize wr=w2 at *;have k2:=kk;obtain⟨N,hb2⟩:∃b,Hid (b=w2.heap.size):=⟨_,ae rfl⟩;have xc:Hid (aX N N 42 i6 ([]:List (List UInt8)) (.slice none 0 0) w2):=ae (aX.nil _ _ _ _ _);go_wp2_with fail
       clear ba;go_loopw [11,13,14,15,69] (fun o _ _ _ i W=>∃j:Nat,j<=L.length/\i=.int .i64 (j:Int)/\Hid (aX N N 42 i6 ((L.take j).map bV) o W)/\K w2 W) (fun _ _ _ _ i _=>L.length-(intOf i).toNat)
       case atStart=>exact⟨0,af,rfl,xc,K.rf _⟩
       case round =>
        clear kk xc;obtain⟨j,hj,rfl,y,kr⟩:=hrel;by_cases hlt:j<L.length
        ·have ba:(j:Int)<(L.length:Int):=af;obtain⟨O,U,cs,rfl,dH,hrl,I,d⟩:=dM HR.aa j hlt au;have HT:Hid ((L.take (j+1)).map bV=(L.take j).map bV++[bV L[j]]):=ae VV;have ya:Hid (((L.take j).map bV).length<=900001):=ae (by simp only[List.length_map,od];omega);obtain⟨hok,hfit⟩:=iZ.aa _ (bW hlt);generalize L[j]=r at *;obtain⟨vf,ve,rfl,hf,he⟩:=hrl w2 (K.rf w2);have Cg:Hid (∀W,K w2 W->qh r (.agg (eH r vf ve)) W):=ae λW k=>by exact KW
         have I:wr.cell? ⟨O,U+j*13,none⟩=some (.int .i64 r.kind):=I wr kr;have d:∀i,i<13->wr.cell? ⟨O,U+j*13+i,none⟩=(eH r vf ve)[i]?:=λi hi=>(d wr kr i hi).trans Array.getElem?_toList
         obtain⟨D,F,rfl⟩:=cB hf;obtain⟨C,G,rfl⟩:=az he;have J:=ai.new wr 190 (eH r (.slice D r.e.f.length F) (.slice C r.e.es.length G));have H:K wr (wr.alloc (.cells (eH r (.slice D r.e.f.length F) (.slice C r.e.es.length G)) 190)):=(K.rf wr).al _;have hc:rW r=0:=E9;have hE:tR r=bV r:=KD;have C1:=ae λW (kW:K w2 W)=>adv r _ W (Cg.aa W kW) hfit
         simp only[hc,hE]at C1;clear hrl dH hf he hok hfit hc hE;go_upto_region 23 with (fail);clear d I;have Y:=y.aa.st H;generalize wr.alloc _=t at *;generalize wr.heap.size=ge at J⊢;replace kr:=kr.tr H;have q5:=J.cell;clear y H J;have HO5:=ae Y;clear Y;go_wp2_with fail
         have Rn:Hid (N<=t.heap.size):=ae (by rw[hb2.aa];exact kr.size);refine (C1.aa t kr).mono ?_;rintro e w6⟨vb,rfl,jZ,k6⟩;have nO:=HO5.aa.st k6;replace kr:=kr.tr k6;obtain⟨Ab,cb,rfl⟩:∃A c,vb=.slice A (bV r).length c:=by obtain⟨A,c,h,_⟩:=eN jZ;exact⟨A,c,h⟩
         have Z:=nO.blk;obtain⟨css,hown,hcl,ln⟩:=nO;have aDf:=ya.aa;have Gr:=ae jZ;have hwn:=λk e=>gg hown (g:=k) e
         generalize (L.take j).map bV=RJ at *;have kA:K w6 (w6.alloc (.cells #[.slice Ab (bV r).length cb] 42)):=(K.rf w6).al _;have xB:N<=(w6.alloc (.cells #[.slice Ab (bV r).length cb] 42)).heap.size:=by rw[hb2.aa];exact bq kr.size kA.size
         have HWN:=ae hwn;clear Z C1 HO5 jZ hwn;go_wp2_with (at_builtin;refine iC rfl _ _ 149 rfl N 42 _ 1 24 Rg _ _ _ rfl (pg hown _) (w6.heap.size+1) _ 1 1 [.slice Ab (bV r).length cb] rfl ?c1 ?c2 ?c3 xB ?_)
         case c1=>exact Reads.new w6 [.slice Ab (bV r).length cb] 42 1 1 rfl
         case c2=>intro u hu;simp at hu;subst hu;rfl
         case c3=>omega
         intro v9 M eU bJ dc bo;have k9:K w2 M:=(kr.tr kA).trans (bo.mono (by rw[hb2.aa];exact aG _));have zX:Hid (aX N N 42 i6 ((L.take (j+1)).map bV) v9 M):=ae (by
          rw[HT.aa];exact aX.snoc (S:=i6) (lo:=N) hcl (λw' u=>ln w' (aH.tr (aH.bg kA _ _) u)) eU bJ pO (λw' u=>by
           have ho:=Gr.aa;have u':=(aH.bg kA N _).tr u;exact⟨_,rfl,eN (Dm ho λk h1 h2 h3=>u'.block k (bq Rn.aa h1) h2 (λe=>by
            obtain⟨c1,O⟩:=HWN.aa k e.symm;obtain⟨c2,N⟩:=gg ho h3;exact absurd (O.ja N) au))⟩))
         exact Pq
        ·have ba:¬(j:Int)<(L.length:Int):=af;rw[eT af]at y;have Zl:gp<=N:=by rw[<- im,hb2.aa];exact bq V.size k2.size
         have yy:=ae (aX.low (aX.floor y.aa Zl) Zl);have uV:=ae im;clear Zl;have kF:=V.tr (k2.tr kr);clear y hlt hj HR;go_wp2;go_ret2;first|exact⟨_,rfl,yy.aa,kF⟩|exact⟨_,rfl,by rw[uV.aa];exact yy.aa,kF⟩
def lA(d:lq):List UInt8:=frames (d.gU.map bV)
abbrev MK(gd:Nat)(vh:Value)(d:lq)(w:World):Prop:=iq gd vh (lA d) (lA d).length d.room w
abbrev Ro(gl gd:Nat)(vh vr:Value)(d:lq)(w:World):Prop:=jY gl gd vh vr (lA d) (lA d).length d.room w
def uY(M:Nat->Prop)(s:bA)(vl vp va:Value)(w:World):Prop:=Fx M (λW=>ar aQ s.list vl W/\ar aQ s.prom vp W/\ar bI s.ab va W) w
structure Yb(gd:Nat)(vh:Value)(d:lq)(s:bA)(w:World)(e:Ending)(w':World)(gl:Nat)(dA vr vl vp va:Value):Prop where
 ret:e=.returned (.tuple #[.pointer (some ⟨gl,0,none⟩),.agg (bS s vl vp va),.int .i64 0])
 lg:Ro gl gd dA vr d w'
 st:uY (λk=>k<w.heap.size∨jg gl gd dA vr k) s vl vp va w'
 up:ah (jf gd vh) w w'
 new:∀k,jg gl gd dA vr k->jf gd vh k∨w.heap.size<=k
 gl:w.heap.size<=gl
def Yc(gd:Nat)(vh:Value)(d:lq)(w:World)(e:Ending)(w':World):Prop :=
 ∃h,e=.returned (.tuple #[.pointer none,.agg jG,.int .i64 90])/\MK gd h d w'/\lr gd vh h w w'
def DG(gd:Nat)(vh:Value)(d:lq)(s:bA)(w:World)(e:Ending)(w':World):Prop :=
 if jw (eP (dS s))<=d.room then ∃gl h vr vl vp va,Yb gd vh ⟨eP (dS s),d.room⟩ (dS s) w e w' gl h vr vl vp va else Yc gd vh d w e w'
section
variable {gl gd ie room:Nat} {vh vr:Value} {l:List UInt8} {w w':World} {X:Nat->Prop}
theorem iq.bT(h:iq gd vh l ie room w)(u:ah X w w')(i:∀k,jf gd vh k->¬X k):iq gd vh l ie room w' :=
 ⟨h.blk.bT u (i _ (.inl rfl)),eE h.own u λb hb=>i b (.inr hb),h.len,h.room⟩
theorem jY.bT(h:jY gl gd vh vr l ie room w)(u:ah X w w')(i:∀k,jg gl gd vh vr k->¬X k):jY gl gd vh vr l ie room w':=by obtain⟨n,xs,hn,j⟩:=h.row;exact⟨h.dk.bT u λk hk=>i k (.inr (.inr hk)),h.blk.bT u (i _ (.inl rfl)),n,xs,hn,eE j u λb hb=>i b (.inr (.inl hb))⟩
end
theorem aoI(gd:Nat)(vh:Value)(d:lq)(s:bA)(w:World)(h:MK gd vh d w)(I:kX d s)(L:FN (d.gU.map bV))(hl:s.life+1<18446744073709551616) :
 Calls prog 32 #[.pointer (some ⟨gd,0,none⟩)] w (DG gd vh d s w):=by
 obtain⟨i,Y⟩:∃i,i=d.gU.map bV:=⟨_,rfl⟩
 obtain⟨t,T⟩:∃t,t=(eP (dS s)).map bV:=⟨_,rfl⟩
 obtain⟨j,dK⟩:∃n,n=s.life+1:=⟨_,rfl⟩
 have lO:dS s=⟨j,s.list,s.prom,s.ab⟩:=by unfold dS;rw[Nat.mod_eq_of_lt hl,dK]
 have hlen:=I.len
 rw[<- Y]at L
 have HA:=ae L
 clear L
 have hD:lA d=frames i:=by rw[Y];rfl
 have hok:∀b∈i,gV b=true:=by rw[Y];intro b hb;obtain⟨r,O,rfl⟩:=List.mem_map.1 hb;exact Uv (I.gU r O).2.2
 have bN:∀b∈i,b.length<=1000000000:=λb hb=>by have:=hok b hb;simp[gV]at this;omega
 have DY:t.all gV=true:=by rw[T,pU];intro b hb;obtain⟨r,O,rfl⟩:=List.mem_map.1 hb;exact Uv (I.small r O)
 have akw:∀b∈t,b.length<=1000000000:=λb hb=>by have:=List.all_eq_true.1 DY b hb;simp[gV]at this;omega
 have akf:i.length<=150000:=by rw[Y,List.length_map];exact I.cnt
 have aC2:t.length<=200000:=by have htot:=I.tot;rw[T,List.length_map];have:=adr (dS s).life;unfold eP;simp only[cT,Kf,OC,Us];show _+s.list.length+s.prom.length+s.ab.length<=_;omega
 have hall:IY i=(s,0):=by have:=auF d.gU (λr O=>⟨(I.gU r O).1,(I.gU r O).2.1⟩) iL s I.run;rw[Y];unfold IY;rw[this];rfl
 have hro:=VG I.inv.dS (by show s.list.length<=_;omega)
 have cC:(frames t).length=jw (eP (dS s)):=by rw[T,Tu]
 have Ev:Hid (∀e w' gl dA vr vl vp va,jw (eP (dS s))<=d.room->Yb gd vh ⟨eP (dS s),d.room⟩ (dS s) w e w' gl dA vr vl vp va->DG gd vh d s w e w'):=ae λe w' gl dA vr vl vp va c h=>by unfold DG;rw[if_pos c];exact⟨gl,dA,vr,vl,vp,va,h⟩
 have Jm:Hid (∀e w',¬jw (eP (dS s))<=d.room->Yc gd vh d w e w'->DG gd vh d s w e w'):=ae λe w' c h=>by unfold DG;rw[if_neg c];exact h
 have HN:Hid (lA ⟨eP (dS s),d.room⟩=frames t):=ae (by rw[T];rfl)
 have HD:=ae hD
 have HRO:Hid (∀r∈eP ⟨j,s.list,s.prom,s.ab⟩,gh r=true/\nX r):=ae (by rw[<- lO];exact hro)
 have Jn:Hid ((eP ⟨j,s.list,s.prom,s.ab⟩).map bV=t):=ae (by rw[<- lO];exact T.symm)
 have HLS:=ae lO
 have Gs:=ae cC
 generalize jw (eP (dS s))=DL at *
 generalize DG gd vh d s w=Post at *
 have Zm:=ae bN
 have HOT:=ae DY
 have HBT:=ae akw
 have Qp:=ae hall
 have dm:=ai.new w 52 jG
 have k0:K w (w.alloc (.cells jG 52)):=(K.rf w).al _
 have Mj:=h.st k0
 have hlo:=h.lt
 have ax3:=ae hlen
 rw[hD]at Mj
 have C1:=ae (ap0 gd vh i d.room _ Mj hok)
 have hW:IntKind.u64.wrap ((s.life:Int)+1)=(j:Int):=by rw[IntWalk.u64_in ((s.life:Int)+1) af];omega
 clear dK hl
 clear h I Y T lO hD hok bN DY akw hall hro cC Mj
 go_enter func32,ntmps32
 go_wp2_with fail
 generalize w.alloc _=w1 at *
 generalize im:w.heap.size=gp at dm⊢
 have uV:=ae im
 refine C1.aa.mono ?_
 rintro e w2⟨gl,vr,rfl,ij,bN,hO,iY,lu⟩
 have hz0:=k0.size
 have ML:Hid (w1.heap.size<=w2.heap.size):=ae lu.size
 have MM:Hid (gp<w1.heap.size):=ae dm.lt
 have Jo:Hid (w.heap.size<=w1.heap.size):=ae hz0
 have bE:=dm.bT lu λh=>by have:=hlo gp h;omega
 have C2:=ae (aok gl _ vr i w2 bN hO.ar af Zm.aa)
 have Jk:Hid (ah (jf gd vh) w w2):=ae ((ah.bg k0 _).tr lu)
 have uU:=ae hO
 have uZ:=ae bN
 have MJ:=ae iY
 clear lu hO bN iY C1 dm im
 go_wp2_with fail
 refine C2.aa.mono ?_
 rintro e U⟨v3,rfl,b5,k3⟩
 have C3:=ae (HA.aa v3 U b5.ar)
 obtain⟨A3,c3,rfl⟩:=b5.slice
 clear C2 b5
 go_wp2_with fail
 refine C3.aa.mono ?_
 rintro e H⟨vl,vp,va,c1,c2,rfl,zT,k4⟩
 rw[Qp.aa]at zT⊢
 have HS4:=ae zT
 have yz:=k3.tr k4
 have k24:=ae yz
 have dD:=bE.below yz bE.lt
 have vu:=ae (uZ.aa.below yz uZ.aa.lt)
 have HD4:=ae (MJ.aa.st yz)
 have Rp:=ae (uU.aa.st yz)
 have iX:gp<H.heap.size:=dD.lt
 have Rq:Hid (U.heap.size<=H.heap.size/\w2.heap.size<=U.heap.size):=ae ⟨k4.size,k3.size⟩
 have ix:=ai.new H 52 jG
 have Q:=ix.cell
 have z7:=ix.frozen
 obtain⟨⟨B,cl,rfl⟩,⟨E,D,rfl⟩,F,C,rfl⟩:(∃A c,vl=.slice A s.list.length c)/\(∃A c,vp=.slice A s.prom.length c)/\∃A c,va=.slice A s.ab.length c:=by obtain⟨x,y,z,e,h1,h2,h3⟩:=zT.jr;exact VD
 clear C3 zT k3 k4 yz
 go_upto_region 5 with (fail)
 clear Q z7 ix
 have LD:=ai.new H 52 (bS s (.slice B s.list.length cl) (.slice E s.prom.length D) (.slice F s.ab.length C))
 have k5:K H (H.alloc (.cells (bS s (.slice B s.list.length cl) (.slice E s.prom.length D) (.slice F s.ab.length C)) 52)):=(K.rf H).al _
 generalize H.alloc _=w5 at *
 generalize oV:H.heap.size=g7 at LD iX⊢
 have Q:=LD.cell
 have z7:=LD.frozen
 have Qq:ai (w5.setCell ⟨g7,0,none⟩ (.int .u64 (j:Int))) g7 52 (bS ⟨j,s.list,s.prom,s.ab⟩ (.slice B s.list.length cl) (.slice E s.prom.length D) (.slice F s.ab.length C)):=LD.aR 0 (.int .u64 (j:Int))
 have k6:K H (w5.setCell ⟨g7,0,none⟩ (.int .u64 (j:Int))):=K.set k5 (r:=g7) af 0 _
 go_upto_region 8 with (fail)
 clear Q z7 LD hW k5
 generalize World.setCell w5 _ _=w6 at *
 have Q:=Qq.cell
 have wK:=k6.size
 have HX:Hid (∀k,jg gl gd vh vr k->k<U.heap.size):=ae λk hk=>by
  have h2:=Rq.aa.2;rcases hk with rfl|hk|hk
  ·have:=uZ.aa.lt;omega
  ·have:=(uU.aa.blk k hk).2;omega
  ·have:=MJ.aa.lt k hk;omega
 have Zn:Hid (uY (λk=>k<U.heap.size) s (.slice B s.list.length cl) (.slice E s.prom.length D) (.slice F s.ab.length C) H):=ae λW u=>by obtain⟨x,y,z,e,h1,h2,h3⟩:=(HS4.aa.low u).jr;simp at e;obtain⟨rfl,rfl,rfl⟩:=e;exact⟨h1,h2,h3⟩
 have Rs:=ae (Zn.aa.k k6)
 have C4:=ae (ap1 ⟨j,s.list,s.prom,s.ab⟩ (.agg (bS ⟨j,s.list,s.prom,s.ab⟩ (.slice B s.list.length cl) (.slice E s.prom.length D) (.slice F s.ab.length C))) w6 ⟨_,_,_,rfl,Rs.aa.now.1,Rs.aa.now.2.1,Rs.aa.now.2.2⟩ (by simp only;have:=ax3.aa;omega) HRO.aa)
 rw[Jn.aa]at C4
 have MN:=ae hlo
 have HG7:=ae oV
 clear hlo oV hlen
 go_wp2_with fail
 refine C4.aa.mono ?_
 rintro e w7⟨v7,rfl,jh,k7⟩
 have Zo:∀k,jg gl gd vh vr k->k<w6.heap.size:=λk hk=>by have:=HX.aa k hk;have:=Rq.aa;omega
 have tB:=k6.tr k7
 have YV:jY gl gd vh vr (frames i) (frames i).length d.room w7:=by obtain⟨css,O,hcl,hE⟩:=Rp.aa.st tB;exact⟨HD4.aa.st tB,vu.aa.below tB vu.aa.lt,_,_,TK i,my (fw _) O⟩
 have MO:Fx (jg gl gd vh vr) (λW=>ar i6 t v7 W) w7:=(jh.sG.fx λk hk=>hk).less Zo
 have C5:=ae (aoj gl gd vh vr v7 (frames i) d.room t w7 YV MO af HBT.aa)
 have Jp:Hid (wZ (frames i) t d.room=if DL<=d.room then (frames t,0)else (frames i,90)):=ae (by unfold wZ wY;rw[if_pos HOT.aa,Gs.aa])
 have HX7:=ae Zo
 have HF7:=ae (Rs.aa.k k7)
 have Yd:=Qq.below k7 Qq.lt
 have R:=dD.below tB dD.lt
 have HK7:=ae tB
 obtain⟨A7,c7,rfl⟩:=jh.sG.slice
 clear Q Qq jh YV MO C4 k7 Zo k6 wK
 go_wp2_with fail
 refine C5.aa.mono ?_
 rintro e Z⟨J,Jq,rfl,pH,MP,G⟩
 clear C5
 have HU:Hid (ah (jf gd vh) w Z):=ae (by
  refine (Jk.aa.tr (ah.bg (k24.aa.tr HK7.aa) _)).iA G.up λk hk hx=>?_
  rcases hx with rfl|hx|hx
  ·have:=uV.aa;omega
  ·have:=(uU.aa.blk k hx).1;have:=Jo.aa;omega
  ·exact hx)
 by_cases hfit:DL<=d.room
 ·have eB:Hid (wZ (frames i) t d.room=(frames t,0)):=ae (by rw[Jp.aa,if_pos hfit]);rw[eB.aa]at pH MP⊢;have xT:=ae hfit;have Rt:=ae (pH rfl);have mM:=Yd.bT G.up λhx=>by have:=HX7.aa _ hx;have:=HX.aa _ hx;have:=HG7.aa;have:=Rq.aa;omega
  have S:=R.bT G.up λhx=>by exact Pr
  have HF8:Hid (uY (λk=>k<w1.heap.size∨jg gl gd J Jq k) ⟨j,s.list,s.prom,s.ab⟩ (.slice B s.list.length cl) (.slice E s.prom.length D) (.slice F s.ab.length C) Z):=ae (HF7.aa.to (M:=λk=>k<U.heap.size) (N:=λk=>k<w1.heap.size∨jg gl gd J Jq k) G.up (λk hk=>HX.aa k hk) λk hk hx=>by
   rcases hx with hx|hx
   ·have:=Rq.aa;have:=ML.aa;omega
   ·exact HX.aa k ((G.new k hx).resolve_right af))
  have Q:=mM.cells;have MQ:Hid (∀k,jg gl gd J Jq k->¬k=gp):=ae λk hk e=>by
   rcases G.new k hk with hx|hx
   ·rw[e]at hx;exact Pr
   ·have:=R.lt;omega
  have Ew:Hid (∀k,jg gl gd J Jq k->jf gd vh k∨w.heap.size<=k):=ae λk hk=>by
   rcases G.new k hk with hx|hx
   ·exact agE
   ·have:=R.lt;have:=uV.aa;right;omega
  have HGL:Hid (w.heap.size<=gl):=ae (by have:=Jo.aa;omega);clear mM G pH MP Yd R hfit eB Jp;go_upto_region 14 with (fail);refine eM 3 [([],[]),([],[]),([0],[(49,0)]),([0,1,2],[(50,1)]),([0,1,2,3],[])] 51 rfl ak ak ak ak au ?_;simp only[dR,dN,ew,dP];iterate 3 (apply aV.is;intro V W kW hp;(try simp only[aI,aJ,aM,aE,aF,ag]at hp);simp[aL,aw,List.lookup,hp,aS,execOp,ay,ag,aN,kW,Q,go_sem];rfl)
  intro V W kW L;simp only[aJ,aM,eA,ag,Nat.reduceAdd]at L;have dQ:=S.below kW S.lt;have q9:=dQ.cell;have z9:=dQ.frozen;refine bu.skip (World.setCell (World.setCell (World.setCell (World.setCell W ⟨gp,0,none⟩ (.int .u64 (j:Int))) ⟨gp,1,none⟩ (.slice B s.list.length cl)) ⟨gp,2,none⟩ (.slice E s.prom.length D)) ⟨gp,3,none⟩ (.slice F s.ab.length C)) rfl (by simp[aw,List.lookup,L,bj,execOp,ay,q9,z9,go_sem]) ?_;apply bu.pure;rfl;simp[aw,List.lookup,bj,L,execOp,ay,go_sem];rfl;refine bu.nil ?_;simp only[bF,Act.put,cO,cM,cL,Nat.reduceAdd,L,bj];clear q9 z9 Q;have nG:ai (World.setCell (World.setCell (World.setCell (World.setCell W _ _) _ _) _ _) _ _) gp 52 (bS ⟨j,s.list,s.prom,s.ab⟩ (.slice B s.list.length cl) (.slice E s.prom.length D) (.slice F s.ab.length C)):=(((dQ.aR 0 (.int .u64 (j:Int))).aR 1 (.slice B s.list.length cl)).aR 2 (.slice E s.prom.length D)).aR 3 (.slice F s.ab.length C);have u9:ah (λk=>k=gp) W _:=(((ah.b6 (X:=λk=>k=gp) rfl 0 (.int .u64 (j:Int))).tr (ah.b6 (X:=λk=>k=gp) rfl 1 (.slice B s.list.length cl))).tr (ah.b6 (X:=λk=>k=gp) rfl 2 (.slice E s.prom.length D))).tr (ah.b6 (X:=λk=>k=gp) rfl 3 (.slice F s.ab.length C));generalize World.setCell (World.setCell (World.setCell (World.setCell W _ _) _ _) _ _) _ _=W9 at *;have e9:=nG.cell;have HPP:=Ev.aa;clear dQ Ev Jm;have Gt:=ae (((ah.bg kW _).tr u9:ah (λk=>k=gp) Z W9));clear u9 L;go_wp2;try rw[gS]
  refine bodyPost_ret (v:=.tuple #[.pointer (some ⟨gl,0,none⟩),.agg (bS ⟨j,s.list,s.prom,s.ab⟩ (.slice B s.list.length cl) (.slice E s.prom.length D) (.slice F s.ab.length C)),.int .i64 0]) agF rfl ?_;refine HPP _ _ gl J Jq (.slice B s.list.length cl) (.slice E s.prom.length D) (.slice F s.ab.length C) xT.aa ⟨by rw[HLS.aa],?_,?_,?_,Ew.aa,HGL.aa⟩
  ·show jY gl gd J Jq (lA _) (lA _).length d.room W9;rw[HN.aa];exact Rt.aa.bT Gt.aa MQ.aa
  ·rw[HLS.aa];exact (HF8.aa.up Gt.aa λk hk=>.inl (by have:=MM.aa;omega)).less λk hk=>hk.imp (λh=>by have:=Jo.aa;omega) id
  ·exact HU.aa.iA Gt.aa λk hk hx=>by have:=uV.aa;omega
 ·have eB:Hid (wZ (frames i) t d.room=(frames i,90)):=ae (by rw[Jp.aa,if_neg hfit]);rw[eB.aa]at pH MP⊢;have xT:=ae hfit;have S:=R.bT G.up λhx=>by exact Pr
  have MQ:Hid (∀k,jf gd J k->¬k=gp):=ae λk hk e=>by
   rcases G.new k (.inr (.inr hk))with hx|hx
   ·rw[e]at hx;exact Pr
   ·have:=R.lt;omega
  have Ew:Hid (∀k,jf gd J k->jf gd vh k∨w.heap.size<=k):=ae λk hk=>by
   rcases G.new k (.inr (.inr hk))with hx|hx
   ·exact agE
   ·have:=R.lt;have:=uV.aa;right;omega
  have HD8:=ae MP;clear G pH MP Yd R hfit eB Jp;have z:=S.frozen;have qz:=S.cell;go_wp2;have nG:ai (World.setCell (World.setCell (World.setCell (World.setCell Z _ _) _ _) _ _) _ _) gp 52 jG:=(((S.aR 0 (.int .u64 0)).aR 1 (.slice none 0 0)).aR 2 (.slice none 0 0)).aR 3 (.slice none 0 0);have u9:ah (λk=>k=gp) Z _:=(((ah.b6 (X:=λk=>k=gp) rfl 0 (.int .u64 0)).tr (ah.b6 (X:=λk=>k=gp) rfl 1 (.slice none 0 0))).tr (ah.b6 (X:=λk=>k=gp) rfl 2 (.slice none 0 0))).tr (ah.b6 (X:=λk=>k=gp) rfl 3 (.slice none 0 0));clear z qz S;generalize World.setCell (World.setCell (World.setCell (World.setCell Z _ _) _ _) _ _) _ _=W9 at *;have e9:=nG.cell;try rw[gS]
  refine bodyPost_ret (v:=.tuple #[.pointer none,.agg jG,.int .i64 90]) agF rfl ?_;refine Jm.aa _ _ xT.aa ⟨J,rfl,?_,HU.aa.iA u9 λk hk hx=>by have:=uV.aa;omega,Ew.aa⟩;show iq gd J (lA d) (lA d).length d.room W9;rw[HD.aa];exact HD8.aa.bT u9 MQ.aa
