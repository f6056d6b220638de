/-
  The walks of wal's Force, Rewrite, Records, Open (layer 10). Conditions: at most two hundred thousand records; what a disk holds are frames, and last.
-/
import Derived.Test.YtfndfpdhlbmboaaGreatMa11
import Derived.Test.YtfndfpdhlbmboaaGreatMz
set_option maxRecDepth 100000
set_option linter.constructorNameAsVariable false
set_option maxHeartbeats 16000000
set_option linter.unusedVariables false
set_option linter.unusedSimpArgs false
namespace Go.Proofs.YtfndfpdhlbmboaaGreat
open Go Go.RowKit _root_.Go.Proofs.Tryz
theorem awG l j room:(nN l j room).2=0∨(nN l j room).1=l:=by
 unfold nN sW;split
 ·split
  ·exact .inl rfl
  ·exact .inr rfl
 ·exact .inr rfl
theorem apl gl gd vh vr v l room j w(h:jR gl gd vh vr l l.length room w)(B:Fx (jS gl gd vh vr) (λW=>aq jP j v W) w)(S:j.length<=200000)(hb:∀b∈j,b.length<=1000000000) :
 Calls prog 270 #[.pointer (some ⟨gl,0,none⟩),v] w λe w'=>∃E C,e=.returned (.int .i64 (nN l j room).2)/\jR gl gd E C (nN l j room).1 (nN l j room).1.length room w'/\nM gl gd vh vr E C w w':=by
 have y:=ae (aoQ gl gd vh vr v l l.length room j w h B S hb)
 have V:=ae (awG l j room)
 obtain⟨A,c,rfl⟩:=aw B.now
 generalize nN l j room=R at *
 clear h B hb
 go_enter func270,ntmps270
 go_wp2_with fail
 refine y.aa.mono ?_
 rintro e N⟨D,U,rfl,t,u⟩
 by_cases h0:R.2=0
 ·have Q:=ae t;have q:=t.blk.cell;have O:=ae (aqe gd D R.1 l.length room N t.dk);have T:=ae u;have H:=ae h0;rw[h0];clear h0 t u y;go_wp2_with fail
  refine O.aa.mono ?_;rintro e Y⟨rfl,M,J⟩;obtain⟨F,I⟩:=Q.aa.IV M J (aC _);have G:=T.aa.tr I;clear q M J I;go_wp2;go_ret;first
  | exact⟨_,_,by rw[H.aa];rfl,F,G⟩
  | exact⟨by rw[H.aa];rfl,_,_,F,G⟩
 ·have X:(R.2 != 0)=true:=Ia;have L:jR gl gd D U R.1 R.1.length room N:=by have:=V.aa.resolve_left h0;rw[this]at t⊢;exact t
  clear t y;go_wp2;go_ret;first
  | exact⟨_,_,rfl,L,u⟩
  | exact⟨rfl,_,_,L,u⟩
def xw(l:List UInt8)(j:List (List UInt8))(room:Nat):List UInt8×Int:=if j.all ib then xv l (frames j) room else (l,30)
theorem aou gl gd vh vr v l room rs w(h:jR gl gd vh vr l l.length room w)(M:Fx (jS gl gd vh vr) (λW=>aq jP rs v W) w)(rZ:rs.length<=200000)(hb:∀b∈rs,b.length<=1000000000) :
 Calls prog 229 #[.pointer (some ⟨gl,0,none⟩),v] w λe w'=>∃S wh,e=.returned (.int .i64 (xw l rs room).2)/\((xw l rs room).2=0->jR gl gd S wh (xw l rs room).1 (xw l rs room).1.length room w')/\gB gd S (xw l rs room).1 (xw l rs room).1.length room w'/\nM gl gd vh vr S wh w w':=by
 have HA:Hid (xw l rs room=if rs.all ib then xv l (frames rs) room else (l,30)):=ae rfl
 have HD:Hid (xv l (frames rs) room=if (frames rs).length<=room then (frames rs,0)else (l,90)):=ae rfl
 have HF:Hid (zA rs=if rs.all ib then (frames rs,0)else ([],30)):=ae rfl
 generalize xw l rs room=R at *
 have C1:=ae (abn rs v w M.now rZ hb)
 have T:(zA rs).1.length<=1000000000:=agp
 have H:=ae h
 have HV:=ae M
 have Y9:=ae hb
 obtain⟨A,c,rfl⟩:=aw M.now
 have q:=h.blk.cells
 clear h M hb
 go_enter func229,ntmps229
 go_wp2_with fail
 refine C1.aa.mono ?_
 rintro e L⟨v1,rfl,E,J⟩
 generalize zA rs=F at *
 cases hok:rs.all ib
 ·have Z:Hid (F=([],30)):=ae agq;have eZ:Hid (R=(l,30)):=ae agr;rw[Z.aa];have y:Hid (((30:Int)=0->jR gl gd vh vr l l.length room L)/\gB gd vh l l.length room L/\nM gl gd vh vr vh vr w L):=ae ⟨λe=>absurd e ay,(H.aa.st J).dk,nM.rf J⟩;clear hok E T;go_wp2;go_ret;exact⟨vh,vr,K0,by rw[eZ.aa];exact y.aa⟩
 have Z:Hid (F=(frames rs,0)):=ae ags
 have eZ:Hid (R=xv l (frames rs) room):=ae agt
 rw[Z.aa]at E T⊢
 have N:=ae (H.aa.st J)
 obtain⟨A1,c1,rfl,-⟩:=E.slice
 have C2:=ae (aqf gd vh _ l (frames rs) room L N.aa.dk (eK E) T)
 have q1:=q L J
 clear hok q
 go_wp2_with fail
 refine C2.aa.mono ?_
 rintro e G⟨t,rfl,B,D⟩
 obtain⟨a1,a2,a3⟩:=N.aa.apart
 have hx2:=N.aa.blk.aX D.up a1
 obtain⟨n,xs,hnl,Y⟩:=N.aa.row
 replace Y:=iK Y D.up a2
 have O:Hid (nM gl gd vh vr t vr w G):=ae ((nM.rf J).tr ⟨D.up.more λk hk=>.inr (.inr hk),λk hk=>by
  rcases hk with hk|hk|hk
  ·exact .inl (.inl hk)
  ·exact .inl (.inr (.inl hk))
  ·exact (D.new k hk).imp (λh=>.inr (.inr h)) id⟩)
 have tY:=HV.aa.to O.aa.up (λ_ h=>h) λk hk hx=>(O.aa.new k hx).resolve_right af
 clear D E q1 HA HF C1 C2
 by_cases hfit:(frames rs).length<=room
 rotate_left
 ·have yX:Hid (xv l (frames rs) room=(l,90)):=ae agu;rw[yX.aa]at B⊢;have y:Hid (((90:Int)=0->jR gl gd t vr l l.length room G)/\gB gd t l l.length room G/\nM gl gd vh vr t vr w G):=ae ⟨λe=>absurd e ay,B,O.aa⟩;clear hfit B;go_wp2;go_ret;exact⟨t,vr,PU,by rw[eZ.aa,yX.aa];exact y.aa⟩
 have yX:Hid (xv l (frames rs) room=(frames rs,0)):=ae agv
 rw[yX.aa]at B⊢
 have C3:=ae (TG rs _ G tY.now rZ Y9.aa)
 have MN:=ae B
 have q:=hx2.cells
 have gA:=hx2.lt
 clear hfit HD tY HV B
 go_wp2_with fail
 refine C3.aa.mono ?_
 rintro e u⟨j,rfl,bE,U⟩
 obtain⟨css,I,azF,Ev⟩:=bE
 have Q:=hx2.below U gA
 have azG:j.ownBlock≠some gl:=λe=>by have:=(I.lt gl e).1;omega
 have hgd:gl≠gd:=λe=>a1 (.inl e)
 have wi:t.ownBlock≠some gl:=λe=>by obtain⟨cur,h1⟩:=lI MN.aa.own e;exact PR
 have u9:ag (λk=>k=gl) u (u.setCell ⟨gl,1,none⟩ j):=ag.bL (X:=λk=>k=gl) rfl 1 _
 have C:=MN.aa.st U
 have V:jR gl gd t j (frames rs) (frames rs).length room (u.setCell ⟨gl,1,none⟩ j) :=
  ⟨⟨C.blk.aX u9 λe=>hgd e.symm,iK C.own u9 λk hk e=>wi uE,C.len,C.room⟩,Q.aM 1 j,_,_,OM rs,mg (eV _) (iK I u9 λk hk e=>azG uE)⟩
 have hU:nM gl gd vh vr t j w (u.setCell ⟨gl,1,none⟩ j):=by
  refine O.aa.tr ⟨(ag.aT U _).tr (ag.bL (.inl rfl) 1 _),λk hk=>?_⟩;rcases hk with hk|hk|hk
  ·exact .inl (.inl hk)
  ·exact .inr (I.lt k hk).1
  ·exact .inl (.inr (.inr hk))
 have y:Hid (((0:Int)=0->jR gl gd t j (frames rs) (frames rs).length room (u.setCell ⟨gl,1,none⟩ j))/\gB gd t (frames rs) (frames rs).length room (u.setCell ⟨gl,1,none⟩ j)/\nM gl gd vh vr t j w (u.setCell ⟨gl,1,none⟩ j)):=ae ⟨λ_=>V,V.dk,hU⟩
 obtain⟨A3,c3,rfl⟩:=aw (aA.aq ⟨css,I,azF,Ev⟩)
 have q3:=Q.cell
 have z3:=Q.frozen
 clear q hx2 Q C V hU I Ev u9 Y
 go_wp2
 go_ret
 exact⟨_,_,PU,by rw[eZ.aa,yX.aa];exact⟨λ_=>y.aa.1 (by first|trivial|rfl),y.aa.2⟩⟩
theorem abg gl vd vr j w(C:ah w gl 195 #[vd,vr])(t:aq jP j vr w)(y:j.length<=200000)(hb:∀b∈j,b.length<=1000000000) :
 Calls prog 63 #[.pointer (some ⟨gl,0,none⟩)] w λe w'=>∃v',e=.returned v'/\aA (λk=>k<w.heap.size) w.heap.size 94 jP j v' w'/\K w w':=by
 have u:=ae (TG j vr w t y hb)
 obtain⟨A,c,rfl⟩:=aw t
 have q:=C.cell
 clear t
 go_enter func63,ntmps63
 go_wp2_with fail
 refine u.aa.mono ?_
 rintro e F⟨E,rfl,B,D⟩
 go_wp2
 go_ret
 exact⟨_,rfl,B,D⟩
theorem abY gd vh j{B} room w(h:gB gd vh (frames j) B room w)(O:∀b∈j,ib b=true) :
 Calls prog 61 #[.pointer (some ⟨gd,0,none⟩)] w λe w'=>∃gl vr,e=.returned (.tuple #[.pointer (some ⟨gl,0,none⟩),.int .i64 0])/\w.heap.size<=gl/\ah w' gl 195 #[.pointer (some ⟨gd,0,none⟩),vr]/\aA (λk=>k<w.heap.size) w.heap.size 94 jP j vr w'/\gB gd vh (frames j) (frames j).length room w'/\ag (kY gd vh) w w':=by
 have tX:=h.len
 have nJ:=h.room
 have E:=ae (abW gd vh (frames j) B room w h)
 have H:=ae h
 clear h
 go_enter func61,ntmps61
 go_wp2_with fail
 refine E.aa.mono ?_
 rintro e y⟨Q,rfl,S,V⟩
 have mA:∃A c,Q=.slice A (frames j).length c/\Reads y y.heap.size 1 A (frames j).length (dP (frames j))/\(frames j).length<=c:=by
  have T:y.ownsRow w.heap.size 5 1 Q (frames j).length (dP (frames j)):=S;have C:=T;rcases T.2 with ⟨rfl,J⟩|⟨g,cap,cur,rfl,-,-,h1,-⟩
  ·exact⟨_,_,by rw[J],by rw[J]at C⊢;exact Reads.uH C,af⟩
  ·exact⟨_,_,rfl,Reads.uH C,h1⟩
 obtain⟨A1,c1,rfl,jz,azH⟩:=mA
 have F:=ae (aqd j _ y A1 c1 rfl jz azH af O)
 clear E S O
 go_wp2_with fail
 refine F.aa.mono ?_
 rintro e w2⟨Y,rfl,N,X⟩
 have D:=V.tr X
 have R:=ae (ary gd vh (frames j) B room w2 (H.aa.st D))
 have L:=ae N
 clear F N
 go_wp2_with fail
 refine R.aa.mono ?_
 rintro e w3⟨rfl,G,t⟩
 have U:=H.aa.lt
 have I:=V.size
 have W:=((L.aa.less λk hk=>bz hk I).up t.up (λk hk=>U k hk) (λk hk=>by have:=U k hk;omega)).low I
 have jl:=bn D.size t.up.size
 have hb:=ah.new w3 195 #[.pointer (some ⟨gd,0,none⟩),Y]
 have u:=hb.aS
 have M:=W.st u
 have hd4:=G.st u
 have Z:=((ag.aT D _).tr t.up).tr (ag.aT u _)
 clear W G t u L R
 obtain⟨A2,c2,rfl⟩:=M.slice
 go_wp2
 go_ret2
 exact⟨_,_,rfl,jl,hb,M,hd4,Z⟩
theorem ayQ M w:lE M dw (.slice none 0 0) (.slice none 0 0) (.slice none 0 0) w:=λ_ _=>⟨gh _ _,gh _ _,gh _ _⟩
theorem awH l v w(h:aq jP l v w)(hlen:l.length<=800000)(hb:∀b∈l,b.length<=1000000000) :
 Calls prog 62 #[v] w λe w'=>∃vl vp va,e=.returned (.tuple #[.agg (cE (sK l).1 vl vp va),.int .i64 (sK l).2])/\lE (λk=>k<w.heap.size) (sK l).1 vl vp va w'/\K w w':=by
 obtain⟨D,d,rfl,hl,-⟩:=h
 have HL:=ae hl
 generalize ho:sK l=o
 have S:=ae ho
 obtain⟨B,co⟩:=o
 clear ho
 have HB:=ae hb
 have G:=(ah.new w 46 jq).alloc (.cells jq 46)
 have J:=ah.new (w.alloc (.cells jq 46)) 46 jq
 have k0:=K.lq w (.cells jq 46) (.cells jq 46)
 rw[World.size_alloc]at J
 clear hl hb
 go_enter func62,ntmps62
 go_wp2
 go_step3
 go_wp2_with fail
 go_step3
 generalize World.alloc (World.alloc w _) _=w0 at *
 generalize jr:w.heap.size=Q at G J⊢
 obtain⟨base,hbase⟩:∃b,b=Q+1:=⟨_,rfl⟩
 have Jg:=ae (show yS base (Q+1) dw w0 from ⟨_,_,_,eC.nil (n:=0) (l:=[]) J af (aA.nil _ _ _ _ _)⟩)
 have hlow:base<=w0.heap.size:=by have:=J.lt;omega
 have kk:Below base w0 w0:=cM _ _
 clear J
 go_wp2_with fail
 go_loopw [5,7,8,9,12] (fun f _ _ _ i W=>∃j:Nat,j<=l.length/\i=.int .i64 j/\f=.int .i64 0/\Hid ((gP dw (l.take j)).2=0)/\Hid (yS base (Q+1) (gP dw (l.take j)).1 W)/\Below base w0 W) (fun _ _ _ _ i _=>l.length-(intOf i).toNat)
 case atStart=>exact⟨0,af,rfl,rfl,ae (by simp[gP]),ae (by simpa [gP]using Jg.aa),kk⟩
 case round =>
  clear kk Jg;obtain⟨j,hj,rfl,rfl,Z,F,H⟩:=hrel;have kr:K w wr:=k0.trans (H.mono af);by_cases C:j<l.length
  ·have aP:(j:Int)<l.length:=af;obtain⟨b1,off,cs,rfl,hcl,hrl,d0,-⟩:=ed HL.aa j C ay;have X:=ae (adh C Z.aa);have T:=ae (λc=>avc C Z.aa (c:=c));have bR:=HB.aa _ (bS C);have hsz:=avb (l.take j) dw;simp only[nX,show dw.list.length=0 from rfl,show dw.prom.length=0 from rfl,show dw.ab.length=0 from rfl]at hsz;generalize l[j]=b at *;generalize (gP dw (l.take j)).1=s at *;obtain⟨vb,rfl,mA⟩:=hrl wr kr;have hv:∃A c,vb=.slice A b.length c:=by obtain⟨A,c,h,_⟩:=mA;exact⟨A,c,h⟩
   obtain⟨Ab,cb,rfl⟩:=hv;have q0:wr.cell? ⟨b1,off+j,none⟩=some (.slice Ab b.length cb):=VP;have C1:=ae (aph b _ wr mA bR);clear hrl hcl d0 mA;go_wp2_with fail
   refine C1.aa.mono ?_;rintro e N⟨v',rfl,sX,k2⟩;have R:=ae sX;obtain⟨vf,ve,rfl,hf,he⟩:=sX N (aI.rf _ _ _);obtain⟨Af,cf,rfl⟩:=b6 hf;obtain⟨Ae,ce,rfl⟩:=aw he;have I:=ah.new N 197 (eS (tv b) (.slice Af (tv b).e.f.length cf) (.slice Ae (tv b).e.es.length ce));have L:=I.aS;have O:=k2.tr L;have Y:Hid (rO s b=if tz b=0 then mj s (tv b)else (s,tz b)):=ae rfl;have HDR:=ae (@ars b);clear sX hf he C1 q0;generalize tz b=c at *;by_cases hc:c=0
   ·subst hc;obtain⟨x,hx1,hx2⟩:=HDR.aa rfl;have HFX:=ae (arq hx1);have HOX:=ae (ap3 (apX hx1).2);rw[hx2]at Y R I L O⊢;clear hx1 hx2 HDR;go_upto_region 8 with (fail);generalize N.alloc _=V at *;generalize N.heap.size=g8 at I⊢;obtain⟨vl,vp,va,hS⟩:=F.aa;have dQ:=bn hlow H.size;have MH:MG base (Q+1) s x vl vp va (.agg (eS x (.slice Af x.e.f.length cf) (.slice Ae x.e.es.length ce))) V :=
     ⟨hS.st O,λW u=>R.aa W ((aI.aT L _ _).tr (u.qZ λk h1 _ _ e=>by have:=hS.lt dQ k (.inr e);have:=k2.size;omega)),bn dQ O.size,⟨af,af,af⟩,HOX.aa,HFX.aa⟩
    have C2:=ae (ad6 V MH);have q3:=I.cell;have U:=H.trans (O.mono (bn hlow H.size));clear MH hS F R I L;go_wp2_with fail
    refine C2.aa.mono ?_;rintro e w4⟨rfl,E,hb4⟩;have RX:=ae E;have Za:=U.trans hb4;have ajB:=Y.aa.trans (if_pos aj);have Ya:=ae ajB;clear E q3 C2 Y ajB;generalize mj s x=o at *;obtain⟨s',e'⟩:=o;by_cases he':e'=0
    ·subst he';have Ew:Hid ((gP dw (l.take (j+1))).2=0):=ae (by rw[X.aa,Ya.aa]);have HS5:Hid (yS base (Q+1) (gP dw (l.take (j+1))).1 w4):=ae (by rw[X.aa,Ya.aa];exact RX.aa);go_wp2;go_roundw
     case rel=>exact⟨j+1,af,bJ,rfl,Ew,HS5,Za⟩
     case measure=>simp[intOf];omega
    ·have y:=T.aa e' (by rw[Ya.aa]) he';rw[S.aa]at y;obtain⟨rfl,rfl⟩:=Prod.mk.inj y;clear y T X RX;have t:=(G.below Za af);have z:=t.frozen;have M:=t.cell;obtain⟨aZ,k9,-⟩:=Lm dw (.slice none 0 0) (.slice none 0 0) (.slice none 0 0) t rfl (k0.trans (Za.mono af)) af;rw[show ((dw.life:Nat):Int)=0 from rfl]at aZ k9;clear G C aP t;go_wp2;clear z M;generalize World.setCell (World.setCell (World.setCell (World.setCell w4 _ _) _ _) _ _) _ _=W9 at *;exact agw
   ·have y:=T.aa c (by rw[Y.aa,if_neg hc]) hc;rw[S.aa]at y;obtain⟨rfl,rfl⟩:=Prod.mk.inj y;have U:=H.trans (O.mono (bn hlow H.size));go_upto_region 7 with (fail);generalize N.alloc _=V at *;clear y T X F I L R;have t:=(G.below U af);have z:=t.frozen;have M:=t.cell;obtain⟨aZ,k9,-⟩:=Lm dw (.slice none 0 0) (.slice none 0 0) (.slice none 0 0) t rfl (k0.trans (U.mono af)) af;rw[show ((dw.life:Nat):Int)=0 from rfl]at aZ k9;clear G C aP t;go_wp2;clear z M;generalize World.setCell (World.setCell (World.setCell (World.setCell V _ _) _ _) _ _) _ _=W9 at *;exact agw
  ·have aP:¬(j:Int)<l.length:=af;have y:=Z.aa;rw[fM af]at y F;have y:=atb y;rw[S.aa]at y;obtain⟨ru,rfl⟩:=Prod.mk.inj y;rw[<- ru]at F;obtain⟨vl,vp,va,E⟩:=F.aa;obtain⟨⟨El,fl,rfl⟩,⟨Ep,fp,rfl⟩,Ea,fa,rfl⟩:=E.slices;have q:=E.blk.cell;have t:=G.below H af;have z:=t.frozen;have M:=t.cell;obtain⟨aZ,k9,u9⟩:=Lm B (.slice El B.list.length fl) (.slice Ep B.prom.length fp) (.slice Ea B.ab.length fa) t rfl kr af;have H9:=ae (And.intro (E.fx.up u9 λk e=>show k<base by omega) k9);clear E F G y Z C S ru t k9 u9;go_wp2;clear q z M;generalize World.setCell (World.setCell (World.setCell (World.setCell wr _ _) _ _) _ _) _ _=W9 at *;have e9:=aZ.cell;try rw[gq]
   refine bodyPost_ret (v:=.tuple #[.agg (cE B (.slice El B.list.length fl) (.slice Ep B.prom.length fp) (.slice Ea B.ab.length fa)),.int .i64 0]) (by simp[results,results62,go_sem,e9]) rfl ?_;exact⟨_,_,_,rfl,H9.aa.1.less λk h=>af,H9.aa.2⟩
def FW(l:List (List UInt8)):Prop:=∀(v:Value) (w:World),aq jP l v w->Calls prog 62 #[v] w λe w'=>∃vl vp va,e=.returned (.tuple #[.agg (cE (sK l).1 vl vp va),.int .i64 (sK l).2])/\lE (λk=>k<w.heap.size) (sK l).1 vl vp va w'/\K w w'
theorem FW.all{l}(j:l.length<=800000)(hb:∀b∈l,b.length<=1000000000):FW l:=λv w h=>awH l v w h j hb
theorem aqg s v w(h:nh s v w)(hz:s.list.length<=300000/\s.prom.length<=300000/\s.ab.length<=300000)(hok:∀r∈dF s,eo r=true/\jT r) :
 Calls prog 228 #[v] w λe w'=>∃v',e=.returned (.tuple #[v',.int .i64 0])/\aV w.heap.size w.heap.size 94 jP ((dF s).map bM) v' w'/\K w w':=by
 obtain⟨vl,vp,va,rfl,hl,hp,ha⟩:=h
 obtain⟨Al,cl,rfl,hl,-⟩:=hl
 obtain⟨Ap,cp,rfl,hp,-⟩:=hp
 obtain⟨Aa,ca,rfl,ha,-⟩:=ha
 have dL:=ah.new w 46 (cE s (.slice Al s.list.length cl) (.slice Ap s.prom.length cp) (.slice Aa s.ab.length ca))
 have Z:=dL.aS
 have HL:=ae hl
 have HP:=ae hp
 have HA:=ae ha
 have jO:=ae hok
 have H1L:=ad7 s.life
 obtain⟨B,jz⟩:∃R,R=vH s.life:=⟨_,rfl⟩
 have hS:dF s=B++lT s.list++kM s.prom++oY s.ab:=by rw[jz];rfl
 generalize dF s=H at *
 have HS:=ae hS
 have Gv:=ae jz
 rw[<- jz]at H1L
 clear hl hp ha hok jz hS
 go_enter func228,ntmps228
 go_upto_region 2 with (fail)
 generalize w.alloc _=F at *
 generalize jr:w.heap.size=gp at dL⊢
 obtain⟨base,hbase⟩:∃b,Hid (b=F.heap.size):=⟨_,ae rfl⟩
 have qp:=dL.cells
 have O:=K.rf F
 clear dL
 go_upto_if 18 with (fail)
 go_cut [4]from 18 to 24 (fun v4 W=>Hid (aV base 0 197 vC B v4 W)/\K F W)
 case first =>
  by_cases h0:s.life=0
  ·have HQ:Hid (B=[]):=ae (by rw[Gv.aa,vH,if_pos h0]);have h0i:((s.life:Int) != 0)=false:=by rw[h0];rfl
   clear h0;go_wp2;go_meet
   case rel=>exact⟨ae (by rw[HQ.aa];exact aV.nil _ _ _ _ _),O⟩
  ·have HQ:Hid (B=[⟨1,s.life,dz,0,0,0⟩]):=ae (by rw[Gv.aa,vH,if_neg h0]);have h0i:((s.life:Int) != 0)=true:=aY;have kA:=K.new F (.cells (eS ⟨1,s.life,dz,0,0,0⟩ (.slice none 0 0) (.slice none 0 0)) 197);have ya:base<=(F.alloc (.cells (eS ⟨1,s.life,dz,0,0,0⟩ (.slice none 0 0) (.slice none 0 0)) 197)).heap.size:=by rw[hbase.aa];exact kA.size
   clear h0;go_wp2_with (at_builtin;refine iF rfl _ _ 333 rfl base 197 _ 13 136 Q0 (.slice none 0 0) 0 [] rfl (jV _ _ _ _) (F.heap.size+1) _ 1 1 (eS ⟨1,s.life,dz,0,0,0⟩ (.slice none 0 0) (.slice none 0 0)).toList rfl ?c1 ?c2 ?c3 ya ?_)
   case c1=>exact Reads.new F (eS ⟨1,s.life,dz,0,0,0⟩ (.slice none 0 0) (.slice none 0 0)).toList 197 13 1 rfl
   case c2=>and_intros <;> rfl
   case c3=>omega
   intro v9 I fN bB cQ aZ;have k9:K F I:=kA.trans (aZ.mono PW);have bq:aV base 0 197 vC B v9 I:=by rw[HQ.aa];exact aV.snoc (S:=vC) (l:=[]) (css:=[]) (lo:=0) rfl (λw' u=>Each.nil _ _) fN bB pC (λw' u=>⟨_,_,rfl,⟨none,0,rfl,Reads.nil _ _ _ _⟩,gh _ _⟩)
   have xy:=ae bq;clear fN bB cQ aZ bq ya kA;go_wp2;go_meet
   case rel=>exact⟨xy,k9⟩
 case rest =>
 obtain⟨T,O⟩:=hcut
 go_wp2_with fail
 go_loopw [4,5,6,28] (fun v4 _ _ i W=>∃j:Nat,j<=s.list.length/\i=.int .i64 j/\Hid (aV base 0 197 vC (B++lT (s.list.take j)) v4 W)/\K F W) (fun _ _ _ i _=>s.list.length-(intOf i).toNat)
 case atStart=>exact⟨0,af,rfl,ae (by simpa [lT]using T.aa),O⟩
 case round =>
  clear O T;obtain⟨j,hj,rfl,t,kr⟩:=hrel;by_cases hlt:j<s.list.length
  ·have aP:(j:Int)<s.list.length:=af;obtain⟨N,Y,cs,rfl,eJ,hrl,E,d⟩:=ed HL.aa j hlt ay;have HT:=ae (atc s.list j hlt);have yL:Hid ((B++lT (s.list.take j)).length<=900001):=ae (by simp only[cF,Ky,nX];omega);generalize s.list[j]=x at *;have p9:=Z.tr kr;obtain⟨vf,ve,rfl,hf,he⟩:=hrl w (K.rf w);have kU:Hid (∀W,K w W->cV x (.agg (aD x vf ve)) W):=ae λW k=>by exact VR
   have E:wr.cell? ⟨N,Y+j*8,none⟩=some (.int .i64 x.kind):=E wr p9;have d:∀i,i<8->wr.cell? ⟨N,Y+j*8+i,none⟩=(aD x vf ve)[i]?:=λi hi=>(d wr p9 i hi).trans Array.getElem?_toList
   obtain⟨Q,M,rfl⟩:=b6 hf;obtain⟨L,J,rfl⟩:=aw he;have y:=ah.new wr 126 (aD x (.slice Q x.f.length M) (.slice L x.es.length J));have D:=y.aS;clear hrl eJ hf he;go_upto_region 7 with (fail);clear d E;have V:=t.aa.st D;generalize wr.alloc _=C at *;generalize wr.heap.size=ge at y⊢;replace kr:=kr.tr D;have RZ:=Z.tr kr;have q5:=y.cell;have kQ:=V.blk;obtain⟨css,hown,hcl,ki⟩:=V;have jn:=yL.aa;generalize U:B++lT (s.list.take j)=RJ at *;have U:=ae U;have kA:=K.new C (.cells (eS ⟨2,j,x,0,0,0⟩ (.slice Q x.f.length M) (.slice L x.es.length J)) 197);have ya:base<=(C.alloc (.cells (eS ⟨2,j,x,0,0,0⟩ (.slice Q x.f.length M) (.slice L x.es.length J)) 197)).heap.size:=VS;have X:=λk e=>(kQ k e).1
   simp only[hbase.aa]at X;have R3:=ae λk e=>bn Z.size (X k e)
   clear t D y kQ X;go_wp2_with (at_builtin;refine iF rfl _ _ 333 rfl base 197 _ 13 136 Q0 _ _ _ rfl (pH hown _) (C.heap.size+1) _ 1 1 (eS ⟨2,j,x,0,0,0⟩ (.slice Q x.f.length M) (.slice L x.es.length J)).toList rfl ?c1 ?c2 ?c3 ya ?_)
   case c1=>exact Reads.new C (eS ⟨2,j,x,0,0,0⟩ (.slice Q x.f.length M) (.slice L x.es.length J)).toList 197 13 1 rfl
   case c2=>and_intros <;> rfl
   case c3=>omega
   intro v9 I fN bB cQ aZ;have k9:K F I:=(kr.tr kA).trans (aZ.mono PW);have xy:Hid (aV base 0 197 vC (B++lT (s.list.take (j+1))) v9 I):=ae (by
    rw[HT.aa,<- dY,U.aa];exact aV.snoc (S:=vC) (lo:=0) hcl (λw' u=>ki w' (aI.tr (aI.aT kA _ _) u)) fN bB pC (λw' u=>ajf (k:=2) (n:=j) (a:=(0,0,0)) (kU.aa w' ((aI.tr (aI.aT kA _ _) u).k RZ R3.aa))))
   exact PX
  ·have aP:¬(j:Int)<s.list.length:=af;rw[fM af]at t;have T:=t;have O:=kr;clear t kr hj hlt;go_wp2_with fail
   clear aP;go_loopw [4,8,44] (fun v4 _ i W=>∃j:Nat,j<=s.prom.length/\i=.int .i64 j/\Hid (aV base 0 197 vC (B++lT s.list++kM (s.prom.take j)) v4 W)/\K F W) (fun _ _ i _=>s.prom.length-(intOf i).toNat)
   case atStart=>exact⟨0,af,rfl,ae (by simpa [kM]using T.aa),O⟩
   case round =>
    clear O T;obtain⟨j,hj,rfl,t,kr⟩:=hrel;by_cases hlt:j<s.prom.length
    ·have aP:(j:Int)<s.prom.length:=af;obtain⟨N,Y,cs,rfl,eJ,hrl,E,d⟩:=ed HP.aa j hlt ay;have HT:=ae (atd s.prom j hlt);have yL:Hid ((B++lT s.list++kM (s.prom.take j)).length<=900001):=ae (by simp only[cF,Ky,Pc,nX];omega);generalize s.prom[j]=x at *;have p9:=Z.tr kr;obtain⟨vf,ve,rfl,hf,he⟩:=hrl w (K.rf w);have kU:Hid (∀W,K w W->cV x (.agg (aD x vf ve)) W):=ae λW k=>by exact VR
     have E:wr.cell? ⟨N,Y+j*8,none⟩=some (.int .i64 x.kind):=E wr p9;have d:∀i,i<8->wr.cell? ⟨N,Y+j*8+i,none⟩=(aD x vf ve)[i]?:=λi hi=>(d wr p9 i hi).trans Array.getElem?_toList
     obtain⟨Q,M,rfl⟩:=b6 hf;obtain⟨L,J,rfl⟩:=aw he;have y:=ah.new wr 126 (aD x (.slice Q x.f.length M) (.slice L x.es.length J));have D:=y.aS;clear hrl eJ hf he;go_upto_region 12 with (fail);clear d E;have V:=t.aa.st D;generalize wr.alloc _=C at *;generalize wr.heap.size=ge at y⊢;replace kr:=kr.tr D;have RZ:=Z.tr kr;have q5:=y.cell;have kQ:=V.blk;obtain⟨css,hown,hcl,ki⟩:=V;have jn:=yL.aa;generalize U:B++lT s.list++kM (s.prom.take j)=RJ at *;have U:=ae U;have kA:=K.new C (.cells (eS ⟨3,0,x,0,0,0⟩ (.slice Q x.f.length M) (.slice L x.es.length J)) 197);have ya:base<=(C.alloc (.cells (eS ⟨3,0,x,0,0,0⟩ (.slice Q x.f.length M) (.slice L x.es.length J)) 197)).heap.size:=VS;have X:=λk e=>(kQ k e).1
     simp only[hbase.aa]at X;have R3:=ae λk e=>bn Z.size (X k e)
     clear t D y kQ X;go_wp2_with (at_builtin;refine iF rfl _ _ 333 rfl base 197 _ 13 136 Q0 _ _ _ rfl (pH hown _) (C.heap.size+1) _ 1 1 (eS ⟨3,0,x,0,0,0⟩ (.slice Q x.f.length M) (.slice L x.es.length J)).toList rfl ?c1 ?c2 ?c3 ya ?_)
     case c1=>exact Reads.new C (eS ⟨3,0,x,0,0,0⟩ (.slice Q x.f.length M) (.slice L x.es.length J)).toList 197 13 1 rfl
     case c2=>and_intros <;> rfl
     case c3=>omega
     intro v9 I fN bB cQ aZ;have k9:K F I:=(kr.tr kA).trans (aZ.mono PW);have xy:Hid (aV base 0 197 vC (B++lT s.list++kM (s.prom.take (j+1))) v9 I):=ae (by
      rw[HT.aa,<- dY,U.aa];exact aV.snoc (S:=vC) (lo:=0) hcl (λw' u=>ki w' (aI.tr (aI.aT kA _ _) u)) fN bB pC (λw' u=>ajf (k:=3) (n:=0) (a:=(0,0,0)) (kU.aa w' ((aI.tr (aI.aT kA _ _) u).k RZ R3.aa))))
     exact PX
    ·have aP:¬(j:Int)<s.prom.length:=af;rw[fM af]at t;have T:=t;have O:=kr;clear t kr hj hlt;go_wp2_with fail
     clear aP;go_loopw [4,10,57] (fun v4 _ i W=>∃j:Nat,j<=s.ab.length/\i=.int .i64 j/\Hid (aV base 0 197 vC (B++lT s.list++kM s.prom++oY (s.ab.take j)) v4 W)/\K F W) (fun _ _ i _=>s.ab.length-(intOf i).toNat)
     case atStart=>exact⟨0,af,rfl,ae (by simpa [oY]using T.aa),O⟩
     case round =>
      clear O T;obtain⟨j,hj,rfl,t,kr⟩:=hrel;by_cases hlt:j<s.ab.length
      ·have aP:(j:Int)<s.ab.length:=af;obtain⟨N,Y,cs,rfl,eJ,hrl,E,d⟩:=ed HA.aa j hlt ay;have HT:=ae (ate s.ab j hlt);have yL:Hid ((B++lT s.list++kM s.prom++oY (s.ab.take j)).length<=900001):=ae awI;generalize s.ab[j]=x at *;have p9:=Z.tr kr;obtain rfl:=hrl w (K.rf w);have E:wr.cell? ⟨N,Y+j*3,none⟩=some (.int .i64 x.1):=E wr p9;have d:∀i,i<3->wr.cell? ⟨N,Y+j*3+i,none⟩=(#[.int .i64 x.1,.int .u64 x.2.1,.int .u64 x.2.2]:Array Value)[i]?:=λi hi=>(d wr p9 i hi).trans Array.getElem?_toList
       have y:=ah.new wr 26 #[.int .i64 x.1,.int .u64 x.2.1,.int .u64 x.2.2];have D:=y.aS;clear hrl eJ;go_upto_region 17 with (fail);clear d E;have V:=t.aa.st D;generalize wr.alloc _=C at *;generalize wr.heap.size=ge at y⊢;replace kr:=kr.tr D;have RZ:=Z.tr kr;have q5:=y.cell;have kQ:=V.blk;obtain⟨css,hown,hcl,ki⟩:=V;have jn:=yL.aa;generalize U:B++lT s.list++kM s.prom++oY (s.ab.take j)=RJ at *;have U:=ae U;have kA:=K.new C (.cells (eS ⟨4,0,dz,x.1,x.2.1,x.2.2⟩ (.slice none 0 0) (.slice none 0 0)) 197);have ya:base<=(C.alloc (.cells (eS ⟨4,0,dz,x.1,x.2.1,x.2.2⟩ (.slice none 0 0) (.slice none 0 0)) 197)).heap.size:=VS;have X:=λk e=>(kQ k e).1
       simp only[hbase.aa]at X;have R3:=ae λk e=>bn Z.size (X k e)
       clear t D y kQ X;go_wp2_with (at_builtin;refine iF rfl _ _ 333 rfl base 197 _ 13 136 Q0 _ _ _ rfl (pH hown _) (C.heap.size+1) _ 1 1 (eS ⟨4,0,dz,x.1,x.2.1,x.2.2⟩ (.slice none 0 0) (.slice none 0 0)).toList rfl ?c1 ?c2 ?c3 ya ?_)
       case c1=>exact Reads.new C (eS ⟨4,0,dz,x.1,x.2.1,x.2.2⟩ (.slice none 0 0) (.slice none 0 0)).toList 197 13 1 rfl
       case c2=>and_intros <;> rfl
       case c3=>omega
       intro v9 I fN bB cQ aZ;have k9:K F I:=(kr.tr kA).trans (aZ.mono PW);have xy:Hid (aV base 0 197 vC (B++lT s.list++kM s.prom++oY (s.ab.take (j+1))) v9 I):=ae (by
        rw[HT.aa,<- dY,U.aa];exact aV.snoc (S:=vC) (lo:=0) hcl (λw' u=>ki w' (aI.tr (aI.aT kA _ _) u)) fN bB pC (λw' u=>⟨_,_,rfl,⟨none,0,rfl,Reads.nil _ _ _ _⟩,gh _ _⟩))
       exact PX
      ·have aP:¬(j:Int)<s.ab.length:=af;rw[fM af]at t;have T:=t;have O:=kr;clear t kr hj hlt;rw[<- HS.aa]at T;have jn:H.length<=900001:=by rw[HS.aa];simp only[cF,Ky,Pc,UI];omega
       obtain⟨A4,c4,rfl,lC,-⟩:=T.aa.aq;have HR:=ae lC;clear T lC HL HP HA;generalize wr=w2 at *;have k2:=O;obtain⟨G,hb2⟩:∃b,Hid (b=w2.heap.size):=⟨_,ae rfl⟩;have xA:Hid (aV G G 94 jP ([]:List (List UInt8)) (.slice none 0 0) w2):=ae (aV.nil _ _ _ _ _);go_wp2_with fail
       clear aP;go_loopw [11,13,14,15,69] (fun o _ _ _ i W=>∃j:Nat,j<=H.length/\i=.int .i64 j/\Hid (aV G G 94 jP ((H.take j).map bM) o W)/\K w2 W) (fun _ _ _ _ i _=>H.length-(intOf i).toNat)
       case atStart=>exact⟨0,af,rfl,xA,K.rf _⟩
       case round =>
        clear O xA;obtain⟨j,hj,rfl,t,kr⟩:=hrel;by_cases hlt:j<H.length
        ·have aP:(j:Int)<H.length:=af;obtain⟨N,Y,cs,rfl,eJ,hrl,E,d⟩:=ed HR.aa j hlt ay;have HT:Hid ((H.take (j+1)).map bM=(H.take j).map bM++[bM H[j]]):=ae VT;have yL:Hid (((H.take j).map bM).length<=900001):=ae (by simp only[List.length_map,nX];omega);obtain⟨hok,hfit⟩:=jO.aa _ (bS hlt);generalize H[j]=r at *;obtain⟨vf,ve,rfl,hf,he⟩:=hrl w2 (K.rf w2);have tV:Hid (∀W,K w2 W->pk r (.agg (eS r vf ve)) W):=ae λW k=>by exact VR
         have E:wr.cell? ⟨N,Y+j*13,none⟩=some (.int .i64 r.kind):=E wr kr;have d:∀i,i<13->wr.cell? ⟨N,Y+j*13+i,none⟩=(eS r vf ve)[i]?:=λi hi=>(d wr kr i hi).trans Array.getElem?_toList
         obtain⟨Q,M,rfl⟩:=b6 hf;obtain⟨L,J,rfl⟩:=aw he;have y:=ah.new wr 197 (eS r (.slice Q r.e.f.length M) (.slice L r.e.es.length J));have D:=y.aS;have hc:tD r=0:=Vu;have hE:zx r=bM r:=Vv;have C1:=ae λW (kW:K w2 W)=>UE r _ W (tV.aa W kW) hfit
         simp only[hc,hE]at C1;clear hrl eJ hf he hok hfit hc hE;go_upto_region 23 with (fail);clear d E;have V:=t.aa.st D;generalize wr.alloc _=C at *;generalize wr.heap.size=ge at y⊢;replace kr:=kr.tr D;have q5:=y.cell;clear t D y;have HO5:=ae V;clear V;go_wp2_with fail
         have R4:Hid (G<=C.heap.size):=ae (by rw[hb2.aa];exact kr.size);refine (C1.aa C kr).mono ?_;rintro e w6⟨vb,rfl,dB,k6⟩;have ko:=HO5.aa.st k6;replace kr:=kr.tr k6;obtain⟨Ab,cb,rfl⟩:∃A c,vb=.slice A (bM r).length c:=by obtain⟨A,c,h,_⟩:=eK dB;exact⟨A,c,h⟩
         have kQ:=ko.blk;obtain⟨css,hown,hcl,ki⟩:=ko;have aD8:=yL.aa;have MO:=ae dB;have hwn:=λk e=>lI hown (g:=k) e
         generalize (H.take j).map bM=RJ at *;have kA:=K.new w6 (.cells #[.slice Ab (bM r).length cb] 94);have ya:G<=(w6.alloc (.cells #[.slice Ab (bM r).length cb] 94)).heap.size:=by rw[hb2.aa];exact bn kr.size kA.size
         have HWN:=ae hwn;clear kQ C1 HO5 dB hwn;go_wp2_with (at_builtin;refine iF rfl _ _ 119 rfl G 94 _ 1 24 RL _ _ _ rfl (pH hown _) (w6.heap.size+1) _ 1 1 [.slice Ab (bM r).length cb] rfl ?c1 ?c2 ?c3 ya ?_)
         case c1=>exact Reads.new w6 [.slice Ab (bM r).length cb] 94 1 1 rfl
         case c2=>intro u hu;simp at hu;subst hu;rfl
         case c3=>omega
         intro v9 I fN bB cQ aZ;have k9:K w2 I:=(kr.tr kA).trans (aZ.mono (by rw[hb2.aa];exact aC _));have xy:Hid (aV G G 94 jP ((H.take (j+1)).map bM) v9 I):=ae (by
          rw[HT.aa];exact aV.snoc (S:=jP) (lo:=G) hcl (λw' u=>ki w' (aI.tr (aI.aT kA _ _) u)) fN bB pC (λw' u=>by
           have ho:=MO.aa;have u':=(aI.aT kA G _).tr u;exact⟨_,rfl,eK (Fg ho λk h1 h2 h3=>u'.block k (bn R4.aa h1) h2 (λe=>by
            obtain⟨c1,N⟩:=HWN.aa k e.symm;obtain⟨c2,G⟩:=lI ho h3;exact absurd (N.gM G) ay))⟩))
         exact PX
        ·have aP:¬(j:Int)<H.length:=af;rw[fM af]at t;have Zb:gp<=G:=by rw[<- jr,hb2.aa];exact bn Z.size k2.size
         have yZ:=ae (aV.low (aV.floor t.aa Zb) Zb);have xB:=ae jr;clear Zb;have kF:=Z.tr (k2.tr kr);clear t hlt hj HR;go_wp2;go_ret2;first|exact⟨_,rfl,yZ.aa,kF⟩|exact⟨_,rfl,by rw[xB.aa];exact yZ.aa,kF⟩
def iW(d:oK):List UInt8:=frames (d.eT.map bM)
abbrev Jm(gd:Nat)(vh:Value)(d:oK)(w:World):Prop:=gB gd vh (iW d) (iW d).length d.room w
abbrev R5(gl gd:Nat)(vh vr:Value)(d:oK)(w:World):Prop:=jR gl gd vh vr (iW d) (iW d).length d.room w
structure Yb(gd:Nat)(vh:Value)(d:oK)(s:dc)(w:World)(e:Ending)(w':World)(gl:Nat)(dx vr vl vp va:Value):Prop where
 ret:e=.returned (.tuple #[.pointer (some ⟨gl,0,none⟩),.agg (cE s vl vp va),.int .i64 0])
 lg:R5 gl gd dx vr d w'
 st:lE (λk=>k<w.heap.size∨jS gl gd dx vr k) s vl vp va w'
 up:ag (kY gd vh) w w'
 new:∀k,jS gl gd dx vr k->kY gd vh k∨w.heap.size<=k
 gl:w.heap.size<=gl
def Yc(gd:Nat)(vh:Value)(d:oK)(w:World)(e:Ending)(w':World):Prop :=
 ∃j,e=.returned (.tuple #[.pointer none,.agg jq,.int .i64 90])/\Jm gd j d w'/\jQ gd vh j w w'
def Dz(gd:Nat)(vh:Value)(d:oK)(s:dc)(w:World)(e:Ending)(w':World):Prop :=
 if iO (dF (cZ s))<=d.room then ∃gl j vr vl vp va,Yb gd vh ⟨dF (cZ s),d.room⟩ (cZ s) w e w' gl j vr vl vp va else Yc gd vh d w e w'
section
variable {gl gd gG room:Nat} {vh vr:Value} {l:List UInt8} {w w':World} {X:Nat->Prop}
theorem gB.aX(h:gB gd vh l gG room w)(u:ag X w w')(j:∀k,kY gd vh k->¬X k):gB gd vh l gG room w' :=
 ⟨h.blk.aX u (j _ (.inl rfl)),iK h.own u λb hb=>j b (.inr hb),h.len,h.room⟩
theorem jR.aX(h:jR gl gd vh vr l gG room w)(u:ag X w w')(j:∀k,jS gl gd vh vr k->¬X k):jR gl gd vh vr l gG room w':=by obtain⟨n,xs,hn,t⟩:=h.row;exact⟨h.dk.aX u λk hk=>j k (.inr (.inr hk)),h.blk.aX u (j _ (.inl rfl)),n,xs,hn,iK t u λb hb=>j b (.inr (.inl hb))⟩
end
theorem aoR gd vh d s w(h:Jm gd vh d w)(hG:ic d s)(hA:FW (d.eT.map bM))(hl:s.life+1<18446744073709551616) :
 Calls prog 137 #[.pointer (some ⟨gd,0,none⟩)] w (Dz gd vh d s w):=by
 obtain⟨j,I⟩:∃j,j=d.eT.map bM:=⟨_,rfl⟩
 obtain⟨u,Ex⟩:∃u,u=(dF (cZ s)).map bM:=⟨_,rfl⟩
 obtain⟨t,dA⟩:∃n,n=s.life+1:=⟨_,rfl⟩
 have lC:cZ s=⟨t,s.list,s.prom,s.ab⟩:=by unfold cZ;rw[Nat.mod_eq_of_lt hl,dA]
 have hlen:=hG.len
 rw[<- I]at hA
 have HA:=ae hA
 clear hA
 have hD:iW d=frames j:=by rw[I];rfl
 have hok:∀b∈j,ib b=true:=by rw[I];exact agx
 have Q:∀b∈j,b.length<=1000000000:=λb hb=>by have:=hok b hb;simp[ib]at this;omega
 have D2:u.all ib=true:=by rw[Ex,uO];intro b hb;obtain⟨r,hr,rfl⟩:=List.mem_map.1 hb;exact UK (hG.small r hr)
 have ajY:∀b∈u,b.length<=1000000000:=λb hb=>by have:=List.all_eq_true.1 D2 b hb;simp[ib]at this;omega
 have IM:j.length<=150000:=by rw[I,List.length_map];exact hG.cnt
 have aDT:u.length<=200000:=by have htot:=hG.tot;rw[Ex,List.length_map];have:=ad7 (cZ s).life;unfold dF;simp only[cF,Ky,Pc,UI];show _+s.list.length+s.prom.length+s.ab.length<=_;omega
 have hall:sK j=(s,0):=by have:=ad8 d.eT (λr hr=>⟨(hG.eT r hr).1,(hG.eT r hr).2.1⟩) dw s hG.run;rw[I];unfold sK;rw[this];rfl
 have hro:=VB hG.inv.cZ aG
 have cL:(frames u).length=iO (dF (cZ s)):=by rw[Ex,OE]
 have Ey:Hid (∀e w' gl dx vr vl vp va,iO (dF (cZ s))<=d.room->Yb gd vh ⟨dF (cZ s),d.room⟩ (cZ s) w e w' gl dx vr vl vp va->Dz gd vh d s w e w'):=ae λe w' gl dx vr vl vp va c h=>by unfold Dz;rw[if_pos c];exact⟨gl,dx,vr,vl,vp,va,h⟩
 have Jn:Hid (∀e w',¬iO (dF (cZ s))<=d.room->Yc gd vh d w e w'->Dz gd vh d s w e w'):=ae λe w' c h=>by unfold Dz;rw[if_neg c];exact h
 have HN:Hid (iW ⟨dF (cZ s),d.room⟩=frames u):=ae (by rw[Ex];rfl)
 have HD:=ae hD
 have HRO:Hid (∀r∈dF ⟨t,s.list,s.prom,s.ab⟩,eo r=true/\jT r):=ae (by rw[<- lC];exact hro)
 have R6:Hid ((dF ⟨t,s.list,s.prom,s.ab⟩).map bM=u):=ae aG
 have Jo:=ae lC
 have R7:=ae cL
 generalize iO (dF (cZ s))=DL at *
 generalize Dz gd vh d s w=Post at *
 have Zc:=ae Q
 have HOT:=ae D2
 have HBT:=ae ajY
 have Q5:=ae hall
 have cS:=ah.new w 46 jq
 have k0:=cS.aS
 have Mp:=h.st k0
 have hlo:=h.lt
 rw[hD]at Mp
 have C1:=ae (abY gd vh j d.room _ Mp hok)
 have hW:IntKind.u64.wrap ((s.life:Int)+1)=(t:Int):=by rw[IntWalk.u64_in ((s.life:Int)+1) af];omega
 clear dA hl
 clear h hG I Ex lC hD hok Q D2 ajY hall hro cL Mp
 go_enter func137,ntmps137
 go_wp2_with fail
 generalize w.alloc _=w1 at *
 generalize jr:w.heap.size=gp at cS⊢
 have xB:=ae jr
 refine C1.aa.mono ?_
 rintro e w2⟨gl,vr,rfl,gA,Q,hO,fI,kZ⟩
 have hz0:=k0.size
 have MP:=ae kZ.size
 have MQ:=ae cS.lt
 have Zd:=ae hz0
 have aW:=cS.aX kZ λh=>by have:=hlo gp h;omega
 have C2:=ae (abg gl _ vr j w2 Q hO.aq af Zc.aa)
 have Jl:=ae ((ag.aT k0 _).tr kZ)
 have wj:=ae hO
 have wg:=ae Q
 have MN:=ae fI
 clear kZ hO Q fI C1 cS jr
 go_wp2_with fail
 refine C2.aa.mono ?_
 rintro e w3⟨v3,rfl,bE,k3⟩
 have C3:=ae (HA.aa v3 w3 bE.aq)
 obtain⟨A3,c3,rfl⟩:=bE.slice
 clear C2 bE
 go_wp2_with fail
 refine C3.aa.mono ?_
 rintro e J⟨vl,vp,va,rfl,qh,k4⟩
 rw[Q5.aa]at qh⊢
 have RX:=ae qh
 have S:=k3.tr k4
 have k24:=ae S
 have ey:=aW.av S
 have xC:=ae (wg.aa.av S)
 have HD4:=ae (MN.aa.st S)
 have Cq:=ae (wj.aa.st S)
 have ir:=ey.lt
 have Gw:Hid (w3.heap.size<=J.heap.size/\w2.heap.size<=w3.heap.size):=ae ⟨k4.size,k3.size⟩
 have iT:=ah.new J 46 jq
 have G:=iT.cell
 have z7:=iT.frozen
 obtain⟨⟨F,cl,rfl⟩,⟨C,B,rfl⟩,A,D,rfl⟩:=qh.sl
 clear C3 qh k3 k4 S
 go_upto_region 5 with (fail)
 clear G z7 iT
 have R:=ah.new J 46 (cE s (.slice F s.list.length cl) (.slice C s.prom.length B) (.slice A s.ab.length D))
 have k5:=R.aS
 generalize J.alloc _=w5 at *
 generalize tS:J.heap.size=g7 at R ir⊢
 have G:=R.cell
 have z7:=R.frozen
 have Yd:ah (w5.setCell ⟨g7,0,none⟩ (.int .u64 t)) g7 46 (cE ⟨t,s.list,s.prom,s.ab⟩ (.slice F s.list.length cl) (.slice C s.prom.length B) (.slice A s.ab.length D)):=R.aM 0 (.int .u64 t)
 have k6:K J (w5.setCell ⟨g7,0,none⟩ (.int .u64 t)):=K.set k5 (r:=g7) af 0 _
 go_upto_region 8 with (fail)
 clear G z7 R hW k5
 generalize World.setCell w5 _ _=w6 at *
 have G:=Yd.cell
 have xg:=k6.size
 have HX:Hid (∀k,jS gl gd vh vr k->k<w3.heap.size):=ae λk hk=>by
  have h2:=Gw.aa.2;rcases hk with rfl|hk|hk
  ·have:=wg.aa.lt;omega
  ·have:=(wj.aa.blk k hk).2;omega
  ·have:=MN.aa.lt k hk;omega
 have R8:=ae (RX.aa.k k6)
 have C4:=ae (aqg ⟨t,s.list,s.prom,s.ab⟩ (.agg (cE ⟨t,s.list,s.prom,s.ab⟩ (.slice F s.list.length cl) (.slice C s.prom.length B) (.slice A s.ab.length D))) w6 ⟨_,_,_,rfl,R8.aa.now.1,R8.aa.now.2.1,R8.aa.now.2.2⟩ aG HRO.aa)
 rw[R6.aa]at C4
 have Jp:=ae hlo
 have HG7:=ae tS
 clear hlo tS hlen
 go_wp2_with fail
 refine C4.aa.mono ?_
 rintro e w7⟨v7,rfl,jC,k7⟩
 have Ze:∀k,jS gl gd vh vr k->k<w6.heap.size:=λk hk=>by have:=HX.aa k hk;have:=Gw.aa;omega
 have T:=k6.tr k7
 have Mx:jR gl gd vh vr (frames j) (frames j).length d.room w7:=by obtain⟨css,hr,hcl,hE⟩:=Cq.aa.st T;exact⟨HD4.aa.st T,xC.aa.av T,_,_,OM j,mg (eV _) hr⟩
 have MR:=(jC.sR.fx λk hk=>hk).less Ze
 have C5:=ae (aou gl gd vh vr v7 (frames j) d.room u w7 Mx MR af HBT.aa)
 have Jq:Hid (xw (frames j) u d.room=if DL<=d.room then (frames u,0)else (frames j,90)):=ae (by unfold xw xv;rw[if_pos HOT.aa,R7.aa])
 have HX7:=ae Ze
 have HF7:=ae (R8.aa.k k7)
 have Ye:=Yd.av k7
 have H:=ey.av T
 have Zf:=ae T
 obtain⟨A7,c7,rfl⟩:=jC.sR.slice
 clear G Yd jC Mx MR C4 k7 Ze k6 xg
 go_wp2_with fail
 refine C5.aa.mono ?_
 rintro e Y⟨E,O,rfl,MS,Z,y⟩
 clear C5
 have HU:=ae (by
  refine (Jl.aa.tr (ag.aT (k24.aa.tr Zf.aa) _)).gg y.up λk hk hx=>?_
  rcases hx with rfl|hx|hx
  ·omega
  ·have:=(wj.aa.blk k hx).1;have:=Zd.aa;omega
  ·exact hx)
 by_cases hfit:DL<=d.room
 ·have U:Hid (xw (frames j) u d.room=(frames u,0)):=ae (by rw[Jq.aa,if_pos hfit]);rw[U.aa]at MS Z⊢;have yz:=ae hfit;have HL8:=ae (MS rfl);have oM:=Ye.aX y.up λhx=>by have:=HX7.aa _ hx;have:=HX.aa _ hx;have:=HG7.aa;have:=Gw.aa;omega
  have L:=H.aX y.up λhx=>by exact PY
  have HF8:Hid (lE (λk=>k<w1.heap.size∨jS gl gd E O k) ⟨t,s.list,s.prom,s.ab⟩ (.slice F s.list.length cl) (.slice C s.prom.length B) (.slice A s.ab.length D) Y):=ae (HF7.aa.to (M:=λk=>k<w3.heap.size) (N:=λk=>k<w1.heap.size∨jS gl gd E O k) y.up (λk hk=>HX.aa k hk) λk hk hx=>by
   rcases hx with hx|hx
   ·have:=Gw.aa;have:=MP.aa;omega
   ·exact HX.aa k ((y.new k hx).resolve_right af))
  have G:=oM.cells;have MU:Hid (∀k,jS gl gd E O k->¬k=gp):=ae λk hk e=>by
   rcases y.new k hk with hx|hx
   ·rw[e]at hx;exact PY
   ·have:=H.lt;omega
  have EA:Hid (∀k,jS gl gd E O k->kY gd vh k∨w.heap.size<=k):=ae λk hk=>by
   rcases y.new k hk with hx|hx
   ·exact agy
   ·have:=H.lt;have:=xB.aa;right;omega
  have R9:Hid (w.heap.size<=gl):=ae af;clear oM y MS Z Ye H hfit U Jq;go_upto_region 14 with (fail);have qs:=G;refine dD 3 [([],[]),([],[]),([0],[(49,0)]),([0,1,2],[(50,1)]),([0,1,2,3],[])] 51 ?_;iterate 3 refine au.i ?_
  clear qs;intro V W kW hA;simp only[aO,aQ,cz,aJ,Nat.reduceAdd]at hA;have cO:=L.av kW;have q9:=cO.cell;have z9:=cO.frozen;refine aH.skip (World.setCell (World.setCell (World.setCell (World.setCell W ⟨gp,0,none⟩ (.int .u64 t)) ⟨gp,1,none⟩ (.slice F s.list.length cl)) ⟨gp,2,none⟩ (.slice C s.prom.length B)) ⟨gp,3,none⟩ (.slice A s.ab.length D)) rfl (by simp[aE,List.lookup,hA,ba,execOp,aF,q9,z9,go_sem]) ?_;apply aH.pure;rfl;simp[aE,List.lookup,ba,hA,execOp,aF,go_sem];rfl;refine aH.h ?_;clear q9 z9 G;have my:ah (World.setCell (World.setCell (World.setCell (World.setCell W _ _) _ _) _ _) _ _) gp 46 (cE ⟨t,s.list,s.prom,s.ab⟩ (.slice F s.list.length cl) (.slice C s.prom.length B) (.slice A s.ab.length D)):=(((cO.aM 0 (.int .u64 t)).aM 1 (.slice F s.list.length cl)).aM 2 (.slice C s.prom.length B)).aM 3 (.slice A s.ab.length D);have u9:ag (λk=>k=gp) W _:=(((ag.bL (X:=λk=>k=gp) rfl 0 (.int .u64 t)).tr (ag.bL (X:=λk=>k=gp) rfl 1 (.slice F s.list.length cl))).tr (ag.bL (X:=λk=>k=gp) rfl 2 (.slice C s.prom.length B))).tr (ag.bL (X:=λk=>k=gp) rfl 3 (.slice A s.ab.length D));generalize World.setCell (World.setCell (World.setCell (World.setCell W _ _) _ _) _ _) _ _=W9 at *;have e9:=my.cell;have HPP:=Ey.aa;clear cO Ey Jn;have Gx:=ae (((ag.aT kW _).tr u9:ag (λk=>k=gp) Y W9));clear u9 hA;go_wp2;try rw[gq]
  refine bodyPost_ret (v:=.tuple #[.pointer (some ⟨gl,0,none⟩),.agg (cE ⟨t,s.list,s.prom,s.ab⟩ (.slice F s.list.length cl) (.slice C s.prom.length B) (.slice A s.ab.length D)),.int .i64 0]) agz rfl ?_;refine HPP _ _ gl E O (.slice F s.list.length cl) (.slice C s.prom.length B) (.slice A s.ab.length D) yz.aa ⟨by rw[Jo.aa],?_,?_,?_,EA.aa,R9.aa⟩
  ·show jR gl gd E O (iW _) (iW _).length d.room W9;rw[HN.aa];exact HL8.aa.aX Gx.aa MU.aa
  ·rw[Jo.aa];exact (HF8.aa.up Gx.aa λk hk=>.inl (by have:=MQ.aa;omega)).less λk hk=>hk.imp (λh=>af) id
  ·exact HU.aa.gg Gx.aa λk hk hx=>by have:=xB.aa;omega
 ·have U:Hid (xw (frames j) u d.room=(frames j,90)):=ae (by rw[Jq.aa,if_neg hfit]);rw[U.aa]at MS Z⊢;have yz:=ae hfit;have L:=H.aX y.up λhx=>by exact PY
  have MU:Hid (∀k,kY gd E k->¬k=gp):=ae λk hk e=>by
   rcases y.new k (.inr (.inr hk))with hx|hx
   ·rw[e]at hx;exact PY
   ·have:=H.lt;omega
  have EA:Hid (∀k,kY gd E k->kY gd vh k∨w.heap.size<=k):=ae λk hk=>by
   rcases y.new k (.inr (.inr hk))with hx|hx
   ·exact agy
   ·have:=H.lt;have:=xB.aa;right;omega
  have HD8:=ae Z;clear y MS Z Ye H hfit U Jq;have z:=L.frozen;have qz:=L.cell;go_wp2;have my:ah (World.setCell (World.setCell (World.setCell (World.setCell Y _ _) _ _) _ _) _ _) gp 46 jq:=(((L.aM 0 (.int .u64 0)).aM 1 (.slice none 0 0)).aM 2 (.slice none 0 0)).aM 3 (.slice none 0 0);have u9:ag (λk=>k=gp) Y _:=(((ag.bL (X:=λk=>k=gp) rfl 0 (.int .u64 0)).tr (ag.bL (X:=λk=>k=gp) rfl 1 (.slice none 0 0))).tr (ag.bL (X:=λk=>k=gp) rfl 2 (.slice none 0 0))).tr (ag.bL (X:=λk=>k=gp) rfl 3 (.slice none 0 0));clear z qz L;generalize World.setCell (World.setCell (World.setCell (World.setCell Y _ _) _ _) _ _) _ _=W9 at *;have e9:=my.cell;try rw[gq]
  refine bodyPost_ret (v:=.tuple #[.pointer none,.agg jq,.int .i64 90]) agz rfl ?_;refine Jn.aa _ _ yz.aa ⟨E,rfl,?_,HU.aa.gg u9 λk hk hx=>by have:=xB.aa;omega,EA.aa⟩;show gB gd E (iW d) (iW d).length d.room W9;rw[HD.aa];exact HD8.aa.aX u9 MU.aa
structure nr where
 g:Nat
 gl:Nat
 gd:Nat
 gr:Nat
 gt:Nat
 vd:Value
 vr:Value
 vp:Value
 vh:Value
 vl:Value
 vq:Value
 va:Value
 vt:Value
 vf:Value
 vw:Value
 kr:List (Int×Value)
abbrev Gy(p:nr)(B:bj):Array Value:=#[.int .i64 B.me,p.vp,p.vh,.pointer (some ⟨p.gl,0,none⟩),.int .u64 (B.st.life:Int),p.vl,p.vq,p.va,p.vt,.int .u64 (B.calls:Int),.map (some p.gr),p.vf,.map (some p.gt),p.vw]
def bw(p:nr)(k:Nat):Prop:=k=p.g∨k=p.gr∨k=p.gt∨jS p.gl p.gd p.vd p.vr k
def B4(l:List (Int×fw))(ak:List (Int×Value))(W:World):Prop:=ak.length=l.length/\∀i (h:i<ak.length) (h':i<l.length),ak[i].1=l[i].1/\lF l[i].2 ak[i].2 W
def pL(l:List aR):List (aR×Value):=l.zipIdx.map λp=>(p.1,.int .i64 (p.2:Int))
structure Zg(p:nr)(B:bj)(W:World):Prop where
 par:aq cR B.par p.vp W
 ai:aq cR B.ai p.vh W
 list:aq aU B.st.list p.vl W
 prom:aq aU B.st.prom p.vq W
 ab:aq b5 B.st.ab p.va W
 aB:aq cW B.aB p.vt W
 fe:aq b5 B.refused p.vf W
 waits:aq aU B.waits p.vw W
 bQ:B4 B.bQ p.kr W
structure bA(M:Nat->Prop)(p:nr)(B:bj)(w:World):Prop where
 blk:ah w p.g 162 (Gy p B)
 lg:R5 p.gl p.gd p.vd p.vr B.dk w
 rep:ei encI w p.gr p.kr
 wm:ei lS w p.gt (pL B.told)
 bI:Fx M (Zg p B) w
 sub:∀k,bw p k->M k
 low:∀k,M k->k<w.heap.size
 ne:p.gr≠p.gt
section
variable {M M' X:Nat->Prop} {p p':nr} {B B':bj} {w w' w'':World}
theorem bA.st(h:bA M p B w)(k:K w w'):bA M p B w' :=
 ⟨h.blk.av k,h.lg.st k,h.rep.st k,h.wm.st k,h.bI.k k,h.sub,λb hb=>bz (h.low b hb) k.size,h.ne⟩
theorem ei.ajZ{gl gd vd vr d α}[DecidableEq α]{enc b}{ak:List (α×Value)}(h:ei enc w b ak)(l:R5 gl gd vd vr d w):¬jS gl gd vd vr b:=λhk=>by
 obtain⟨n,xs,hn,j⟩:=l.row;rcases hk with rfl|hk|rfl|hk
 ·exact h.cells l.blk
 ·obtain⟨cur,hb⟩:=lI j hk;exact h.cells hb
 ·exact h.cells l.dk.blk
 ·obtain⟨cur,hb⟩:=lI l.dk.own hk;exact h.cells hb
theorem bA.apart(h:bA M p B w):p.g≠p.gr/\p.g≠p.gt/\¬jS p.gl p.gd p.vd p.vr p.g/\¬jS p.gl p.gd p.vd p.vr p.gr/\¬jS p.gl p.gd p.vd p.vr p.gt:=by
 refine⟨λe=>h.rep.cells (e▸h.blk),λe=>h.wm.cells (e▸h.blk),λhk=>?_,h.rep.ajZ h.lg,h.wm.ajZ h.lg⟩;obtain⟨n,xs,hn,j⟩:=h.lg.row;rcases hk with e|hk|e|hk
 ·exact absurd (h.blk.gM (e▸h.lg.blk)) ay
 ·obtain⟨cur,hb⟩:=lI j hk;exact absurd (h.blk.gM hb) ay
 ·exact absurd (h.blk.gM (e▸h.lg.dk.blk)) ay
 ·obtain⟨cur,hb⟩:=lI h.lg.dk.own hk;exact absurd (h.blk.gM hb) ay
theorem bA.far(h:bA M p B w)(u:ag X w w')(C:∀k,X k->M k)(hn:∀k,X k->¬bw p k)(t:∀k,k<w.heap.size->M' k->M k)(y:∀k,bw p k->M' k)(A:∀k,M' k->k<w'.heap.size):bA M' p B w' :=
 ⟨h.blk.aX u λj=>hn _ j (.inl rfl),h.lg.aX u λk hk j=>hn k j (.inr (.inr (.inr hk))),h.rep.aX u λj=>hn _ j (.inr (.inl rfl)),h.wm.aX u λj=>hn _ j (.inr (.inr (.inl rfl))),h.bI.to u C t,y,A,h.ne⟩
theorem bA.cell(h:bA M p B w) i v(hb:ah (w.setCell ⟨p.g,i,none⟩ v) p.g 162 (Gy p' B'))
 (hp:p'.g=p.g/\p'.gl=p.gl/\p'.gd=p.gd/\p'.gr=p.gr/\p'.gt=p.gt/\p'.vd=p.vd/\p'.vr=p.vr/\p'.kr=p.kr) (L:B'.dk=B.dk/\B'.told=B.told)
 (G:∀W,ag M w W->Zg p B W->Zg p' B' W):bA M p' B' (w.setCell ⟨p.g,i,none⟩ v):=by
 obtain⟨R,H,N,A,j,O,C,J⟩:=hp
 obtain⟨E,I⟩:=L
 obtain⟨F,D,Q,S,T⟩:=h.apart
 have u:ag (λk=>k=p.g) w (w.setCell ⟨p.g,i,none⟩ v):=ag.bL (X:=λk=>k=p.g) rfl i v
 have t:=u.more λk hk=>h.sub k (.inl hk)
 refine⟨aG,?_,?_,?_,λW y=>G W (t.tr y) (h.bI W (t.tr y)),λk hk=>h.sub k ?_,λk hk=>by simpa using h.low k hk,by rw[A,j];exact h.ne⟩
 ·rw[H,N,O,C,E];exact h.lg.aX u λk hk e=>Q (e▸hk)
 ·rw[A,J];exact h.rep.aX u λe=>F e.symm
 ·rw[j,I];exact h.wm.aX u λe=>D e.symm
 ·grind [bw]
def nr.key(p:nr):Nat×Nat:=(p.g,p.gd)
theorem kg{p:nr}{a b}(h:p.key=(a,b)):p.g=a:=congrArg Prod.fst h
theorem AW{p p':nr}(h:p'.key=p.key):p'.g=p.g:=congrArg Prod.fst h
def dC(M:Nat->Prop)(p:nr)(B':bj)(w w':World):Prop :=
 ∃p',bA (λk=>M k∨bw p' k) p' B' w'/\ag (bw p) w w'/\p'.key=p.key/\∀k,bw p' k->bw p k∨w.heap.size<=k
theorem bA.less(h:bA M p B w)(t:∀k,bw p k->M' k)(j:∀k,M' k->M k):bA M' p B w:=⟨h.blk,h.lg,h.rep,h.wm,h.bI.less j,t,λk hk=>h.low k (j k hk),h.ne⟩
theorem bA.now(h:bA M p B w)(hg:p'.key=p.key)(j:∀k,bw p k->bw p' k∨w'.heap.size<=k)(u:ag (bw p') w' w):dC M p' B w' w :=
 ⟨p,h.less (λk hk=>.inr hk) (λk hk=>hk.elim id (h.sub k)),u,hg.symm,j⟩
theorem bA.n(h:bA M p B w)(k:K w w'):dC M p B w w' :=
 (h.st k).now rfl (λ_ h=>.inl h) (ag.aT k _)
theorem dC.tr{j p1}(u:ag (bw p) w w')(hg:p1.key=p.key)(C:∀k,bw p1 k->bw p k∨w.heap.size<=k)(A:∀k,M k->j k)(h:dC j p1 B' w' w''):dC M p B' w w'':=by
 obtain⟨p2,t,y,D,B⟩:=h;refine⟨p2,t.less (λk hk=>.inr hk) (λk hk=>hk.imp (A k) id),u.gg y λk hk E=>(C k E).resolve_right af,D.trans hg,λk hk=>?_⟩;rcases B k hk with a|a
 ·grind
 ·exact .inr (bn u.size a)
theorem dC.k(h:dC M p B' w w')(k:K w' w''):dC M p B' w w'':=by obtain⟨p2,j,u,t,y⟩:=h;exact⟨p2,j.st k,u.tr (ag.aT k _),t,y⟩
theorem dC.y4{w0}(h:dC M p B' w w')(k:K w0 w)(C:∀j,bw p j->j<w0.heap.size):dC M p B' w0 w':=by obtain⟨p2,t,u,B,y⟩:=h;exact⟨p2,t,(ag.aT k _).tr u,B,λj A=>(y j A).imp id λa=>bn k.size a⟩
end
theorem avs W:B4 [] [] W:=⟨rfl,λi h=>wQ⟩
theorem bA.q{M p B w}(h:bA M p B w):∀W,K w W->∀i,W.cell? ⟨p.g,i,none⟩=(Gy p B)[i]?:=h.blk.cells
section
variable {P:Program} {a0:Act}
theorem atr{t} ρ ty W:∃v W',(execOp ρ (aF (.makeMap t none) ty)).run P W=.ok (.value v) W'/\∀b,Az v=some b->W.heap.size<=b/\b<W'.heap.size :=
 ⟨.map (some W.heap.size),W.alloc (.map #[] 0),by simp[execOp,aF,Instr.makeMap,go_sem],λb hb=>by cases hb;simp⟩
theorem UL l{s u t e z bytes}(T:fK P t e z 1 bytes){w ρ ty}(J:l.length*(bytes+1)<=140737488355328)(E:ρ s=.slice none 0 0)(y:aq cR l (ρ u) w) :
 ∃v w',(execOp ρ (aF (.call { callee:=.builtin .append,args:=#[s,u],argTypes:=#[t,t] }) ty)).run P w=.ok (.value v) w'/\(∀b,Az v=some b->w.heap.size<=b/\b<w'.heap.size)/\aA (λk=>k<w.heap.size) w.heap.size e cR l v w'/\K w w':=by
 obtain⟨A,c,y,⟨css,B,D⟩,-⟩:=y
 have H:=Ou B
 obtain⟨v',w',F,j,G,I,h6⟩:=Fo (P:=P) w w.heap.size t ty e z 1 bytes T (.slice none 0 0) 0 [] (jV _ _ _ _) _ A l.length c css.flatten D B.ones aG (aC _)
 simp only[mi,aO]at j
 refine⟨v',w',?_,λb hb=>?_,⟨css,j,aG,λW u=>mh⟩,h6⟩
 ·simp only[execOp,aF,resolve,invoke,builtin,Sem.run_bind,Sem.run_pure,Result.andThen_ok,List.map_toArray,jU,List.map_nil,E,y,F]
 ·have C:v'.ownBlock=some b:=by cases v' <;> first|exact hb|(rcases j.2 with ⟨h,-⟩|⟨_,_,_,h,-⟩ <;> cases h)
  exact j.lt b C
theorem au.ints{R:World->Prop}{Z:World->World->Prop}{B:List Nat}{C:List Oper->List (List Nat×List (Nat×Nat))->List (Value->World->Prop)->Prop}{m:Nat}{o:Oper}{r:List Oper}{x:List Nat×List (Nat×Nat)}{xs:List (List Nat×List (Nat×Nat))}{t:List (Value->World->Prop)}(y:Nat)(l:List Int){s u:Operand}{A e:TypeId}{z:Value}{bytes:Nat}(T:fK P A e z 1 bytes)
 (O:l.length*(bytes+1)<=140737488355328) (F:∀W,R W->y<=W.heap.size)
 (h:∀(V:Nat->Value) (w:World),R w->(∀j∈x.1,tab t j (V j) w)->aE x.2 a0 V s=.slice none 0 0/\aq cR l (aE x.2 a0 V u) w)
 (k:au P a0 R Z B C m r xs (t++[λv W=>aA (λk=>k<y) y e cR l v W])) (J:o.op=.call { callee:=.builtin .append,args:=#[s,u],argTypes:=#[A,A] }:=by rfl) (hg:o.guard=none:=by rfl) (M:∀v w w',aA (λk=>k<y) y e cR l v w->Z w w'->aA (λk=>k<y) y e cR l v w':=by exact λ_ _ _ h k=>h.st k) (I:B.contains t.length=false:=by (simp only[cF,eQ,List.length_nil,List.contains_nil];try rfl)):au P a0 R Z B C (m+1) (o :: r) (x :: xs) t:=by
 refine au.op _ M (λV w D hp=>?_) k I
 obtain⟨E,G⟩:=h V w D hp
 obtain⟨v,w',Q,-,⟨css,N,H,L⟩,h6⟩:=UL l T (ty:=o.type) O E G
 rw[hg,if_pos (show bP V none=true from rfl),J,Q]
 exact⟨⟨css,mg (F w D) N,H,λW u=>by rw[Ou (L w' (ag.rf _ _))];exact Kt _ _⟩,h6⟩
end
