/-
  The overlay's states (layer 21): State, Busy. Conditions: none.
-/
import Derived.Test.YtfndfpdhlbmboaaGreatMa29
import Derived.Test.YtfndfpdhlbmboaaGreatMz
set_option maxRecDepth 100000
set_option linter.constructorNameAsVariable false
set_option maxHeartbeats 16000000
set_option linter.unusedVariables false
set_option linter.unusedSimpArgs false
namespace Go.Proofs.YtfndfpdhlbmboaaGreat
open Go Go.RowKit _root_.Go.Proofs.Tryz
section
variable {S:Nat->Prop} {W W2:World} {H:mf} {own:Nat->Nat} {O:bH} {par ai:List Int} {k:Nat}
theorem aiP{w W' g s vl vp va cs}(hb:ah W' g 46 cs)(j:cs.size=4)(hg:w.heap.size<=g)(k:K w W')(t:lE (λk=>k<w.heap.size∨k=g) s vl vp va W') :
 (∀i,((((W'.setCell ⟨g,0,none⟩ (.int .u64 (s.life:Int))).setCell ⟨g,1,none⟩ vl).setCell ⟨g,2,none⟩ vp).setCell ⟨g,3,none⟩ va).cell? ⟨g,i,none⟩=#[Value.int .u64 (s.life:Int),vl,vp,va][i]?) /\
  lE (λk=>k<w.heap.size) s vl vp va ((((W'.setCell ⟨g,0,none⟩ (.int .u64 (s.life:Int))).setCell ⟨g,1,none⟩ vl).setCell ⟨g,2,none⟩ vp).setCell ⟨g,3,none⟩ va)/\K w ((((W'.setCell ⟨g,0,none⟩ (.int .u64 (s.life:Int))).setCell ⟨g,1,none⟩ vl).setCell ⟨g,2,none⟩ vp).setCell ⟨g,3,none⟩ va) :=
 ⟨(Fq (us:=[.int .u64 (s.life:Int),vl,vp,va]) hb (by rw[j];rfl)).cell,Fx.to t (ag.sets (X:=λk=>k=g) rfl [.int .u64 (s.life:Int),vl,vp,va] 0 W') (λ_ h=>.inr h) (λ_ _ h=>.inl h),K.sets hg [.int .u64 (s.life:Int),vl,vp,va] 0 W' k⟩
theorem av1{d s}(j:ic d s):sK (d.eT.map bM)=(s,0):=by have:=ad8 d.eT (λr t=>⟨(j.eT r t).1,(j.eT r t).2.1⟩) dw s j.run;unfold sK;rw[this];rfl
theorem adN{d s}(hG:ic d s):∀b∈d.eT.map bM,ib b=true:=agx
theorem bu.stt(h:bu H own O W S)(N:S 2)(u:∀n,S (2*n+4))(D:bO par ai O k) n(j:ku O n=true) :
 (∃g gd X Z B,cX O n=some B/\di H.ak n=some (.pointer (some ⟨g,0,none⟩))/\oR O n=B.st/\∀W',K W W'->dm X Z g gd B W') ∨
 ∃i gd vh d s,n=((i:Nat):Int)/\cX O n=none/\H.ds[i]?=some gd/\di H.ak n=none/\oR O n=s/\ic d s/\∀W',K W W'->Jm gd vh d W':=by
 cases hu:cX O n with
 | some B => obtain⟨i,rfl,E,x,M,P⟩:=DF hu;obtain⟨gd,g,C,L,G⟩:=h.up (u i) D.fV.ln hu;exact .inl ⟨g,gd,_,_,B,rfl,L,by unfold oR;rw[if_pos j,hu],λW' t=>G.st t⟩
 | none => obtain⟨i,rfl,E,d,s,A,y,-⟩:=D.down j hu;obtain⟨gd,C,-,J⟩:=h.brk i _ (u i) A;obtain⟨F,vh,I,-⟩:=J rfl;exact .inr ⟨i,gd,vh,d,s,rfl,rfl,C,F,by unfold oR;rw[if_pos j,hu];simp[A,Lr y],y,λW' t=>I.st t⟩
theorem abw(h:bu H own O W S)(A:S 2)(Q:∀n,S (2*n+4))(hI:bO par ai O k) n :
 Calls prog 19 #[.pointer (some ⟨H.gw,0,none⟩),.int .i64 n] W λe w'=>∃vl vp va,e=.returned (.agg (cE (oR O n) vl vp va))/\lE (λk=>k<W.heap.size) (oR O n) vl vp va w'/\K W w':=by
 have y:=ah.new W 46 #[.int .u64 0,.slice none 0 0,.slice none 0 0,.slice none 0 0]
 have j:=y.aS
 have C:=ae (Ko (h.st j) A n)
 have q:=(h.eW A).blk.cells
 cases hi:ku O n
 ·have HR:Hid (oR O n=dw):=ae (by unfold oR;rw[hi];rfl);generalize oR O n=R at *;rw[hi]at C;have HF:=ae (show lE (λk=>k<W.heap.size) dw (.slice none 0 0) (.slice none 0 0) (.slice none 0 0) (W.alloc (.cells #[.int .u64 0,.slice none 0 0,.slice none 0 0,.slice none 0 0] 46))/\K W (W.alloc (.cells #[.int .u64 0,.slice none 0 0,.slice none 0 0,.slice none 0 0] 46))from
   ⟨λW' _=>⟨(aA.nil (λ_=>True) 0 126 aU W').aq,(aA.nil (λ_=>True) 0 126 aU W').aq,(aA.nil (λ_=>True) 0 26 b5 W').aq⟩,j⟩)
  have qr:=y.cell;have zr:=y.frozen;clear h hI hi A Q q j;go_enter func19,ntmps19;go_wp2_with fail
  apply bF C.aa;rintro w' rfl;clear C y;go_wp2;refine bodyPost_ret (v:=.agg #[.int .u64 0,.slice none 0 0,.slice none 0 0,.slice none 0 0]) (by simp[results,results19,go_sem,qr]) rfl ?_;exact⟨_,_,_,fE,by rw[HR.aa];exact HF.aa.1,HF.aa.2⟩
 rw[hi]at C
 have T:=h.q A
 rcases h.stt A Q hI n hi with ⟨g,gd,X,Z,B,hu,J,L,hL⟩|⟨i,gd,vh,d,s,rfl,hu,hd,J,L,U,hD⟩
 ·have I:=ae (ayh (hL _ j));have D:=(T _ j n).1;rw[J]at D;simp only[Option.getD_some,Option.isSome_some]at D;have q1:=q _ j;rw[L];generalize B.st=R at *;have HQ:=ae λu (t:K (W.alloc (.cells #[.int .u64 0,.slice none 0 0,.slice none 0 0,.slice none 0 0] 46)) u) vl vp va (hF:lE _ R vl vp va u)=>aiP (w:=W) (y.av t) rfl (aC _) (j.tr t) (Fx.less hF λk hk=>(show k<(W.alloc (.cells #[.int .u64 0,.slice none 0 0,.slice none 0 0,.slice none 0 0] 46)).heap.size by simp;omega))
  clear h hI hi A Q q j hL hu J L T;go_enter func19,ntmps19;go_wp2_with fail
  apply bF C.aa;rintro w' rfl;go_wp2_with fail
  refine I.aa.mono ?_;rintro e u⟨vl,vp,va,rfl,JH,t⟩;have HP:=ae (HQ.aa u t vl vp va JH);obtain⟨⟨Y,c1,rfl⟩,⟨A2,c2,rfl⟩,V,c3,rfl⟩:=JH.sl;have dI:=y.av t;have qr:=dI.cell;have zr:=dI.frozen;clear C I HQ JH t y dI D q1;go_wp2;obtain⟨e9,F,E⟩:=HP.aa;refine bodyPost_ret (v:=.agg #[.int .u64 (R.life:Int),.slice Y R.list.length c1,.slice A2 R.prom.length c2,.slice V R.ab.length c3]) Xq rfl ?_;exact⟨_,_,_,rfl,F,E⟩
 ·have D:=(T _ j (i:Int)).1;rw[J]at D;simp only[Option.getD_none,Option.isSome_none]at D;obtain⟨b,off,c,Da,hnl,EY⟩:=h.IV hd;have NA:(i:Int)<(H.ds.length:Int):=af;rw[Da]at q;have q1:=q _ j;rw[L];have HD:=ae hD;have HDC:=ae λW' (k:K W W')=>EY W' (ag.aT k _)
  have HQ0:=ae q;have hfit:=U.fit;have hroom:=U.room;have bR:(iW d).length=iO d.eT:=OE d.eT;have hlen:(iW d).length<=1048576:=af;have akF:=ae hlen;have G:=ae U;have hN:∀w,Calls prog 41 #[.int .i64 1048576] w λe w'=>e=.returned (.tuple #[.pointer (some ⟨w.heap.size,0,none⟩),.int .i64 0])/\gB w.heap.size (.slice none 0 0) [] 0 1048576 w'/\K w w':=λw=>agj 1048576 w (aC _)
  have C2:=ae hN;have ZE:=ae y;clear h hI hi A Q q hu J L T hd EY Da hD U hfit hroom bR hlen hN;go_enter func19,ntmps19;go_wp2_with fail
  apply bF C.aa;rintro w' rfl;go_wp2_with fail
  refine (C2.aa _).mono ?_;rintro e u⟨rfl,sw,t⟩;have M:=j.tr t;have q3:=HQ0.aa u M;have aAx:=HDC.aa u M;have I:=ae (abW _ _ _ _ _ u (HD.aa u M));have HDN:=ae sw;have M7:(W.alloc (.cells #[.int .u64 0,.slice none 0 0,.slice none 0 0,.slice none 0 0] 46)).heap.size=W.heap.size+1:=aj;generalize hgd:(W.alloc (.cells #[.int .u64 0,.slice none 0 0,.slice none 0 0,.slice none 0 0] 46)).heap.size=gn at *;have Gz:=ae M;have xE:=ae (ZE.aa.av t);have HGN:=ae M7;clear C C2 D q1 sw t M hgd M7;go_wp2_with fail
  refine I.aa.mono ?_;rintro e w4⟨v4,rfl,dS,k4⟩;have hap:sW [] (iW d) 1048576=(iW d,0):=by have:=akF.aa;unfold sW;rw[if_pos (by simpa using this)];rfl
  have hC4:=abm gn (.slice none 0 0) v4 [] (iW d) 0 1048576 w4 (HDN.aa.st k4) (eK dS) (by have:=akF.aa;omega);rw[hap]at hC4;have C4:=ae hC4;obtain⟨A4,c4,rfl,-⟩:=eK dS;have HK4:=ae (Gz.aa.tr k4);have HR4:=ae (xE.aa.av k4);clear I dS hap hC4 k4 q3 aAx;go_wp2_with fail
  refine C4.aa.mono ?_;rintro e w5⟨vh5,rfl,hd5,Cz⟩;have hX5:∀k,kY gn vh5 k->W.heap.size+1<=k:=λk hk=>by
   have h1:=HGN.aa;have A:=HK4.aa.size;have h3:=HR4.aa.lt;rcases Cz.new k hk with h|h
   ·rcases h with h|h
    ·omega
    ·cases h
   ·omega
  have C5:=ae (abY gn vh5 (d.eT.map bM) 1048576 w5 hd5 (adN G.aa));have u5:ag (λk=>W.heap.size+1<=k) w4 w5:=Cz.up.more λk hk=>by
   rcases hk with h|h
   ·have:=HGN.aa;omega
   ·cases h
  have Nc:=ae (u5.k HK4.aa λk hk=>af);have HR5:=ae (HR4.aa.aX u5 λh=>af);have Nd:=ae hX5;clear C4 hd5 Cz hX5 u5;go_wp2_with fail
  refine C5.aa.mono ?_;rintro e w6⟨gl,vr,rfl,gA,LS,ko,-,u6⟩;have u6':=u6.more Nd.aa;have IM:=G.aa.cnt;have Bg:∀b∈d.eT.map bM,b.length<=1000000000:=λb hb=>by have:=adN G.aa b hb;simp[ib]at this;omega
  have C6:=ae (abg gl _ vr (d.eT.map bM) w6 LS ko.aq (by rw[List.length_map];omega) Bg);have HK6:=ae (u6'.k Nc.aa λk hk=>af);have HR6:=ae (HR5.aa.aX u6' λh=>af);clear C5 LS ko u6 u6' IM Bg Nd gA;go_wp2_with fail
  refine C6.aa.mono ?_;rintro e w7⟨v7,rfl,jC,k7⟩;have N:=G.aa.YF v7 w7 jC.aq;rw[av1 G.aa]at N;obtain⟨A7,c7,rfl⟩:=jC.slice;rw[List.length_map]at N;have C7:=ae N;have Zf:=ae (HK6.aa.tr k7);have HR7:=ae (HR6.aa.av k7);clear C6 jC N k7;go_wp2_with fail
  refine C7.aa.mono ?_;rintro e w8⟨vl,vp,va,rfl,hF8,k8⟩;have cO:=(HR7.aa.av k8).alloc (.cells (cE s vl vp va) 46);have E:=(Zf.aa.tr k8).al (.cells (cE s vl vp va) 46);have F:lE _ s vl vp va _:=Fx.k hF8 ((K.rf w8).al (.cells (cE s vl vp va) 46));have Mx:=HR7.aa.lt;have HP:=ae (aiP (w:=W) cO rfl (aC _) E (Fx.less F λk hk=>(show k<w7.heap.size by omega)));obtain⟨⟨Y,c1,rfl⟩,⟨A2,c2,rfl⟩,V,c3,rfl⟩:=hF8.sl;have hn8:=ah.new w8 46 (cE s (.slice Y s.list.length c1) (.slice A2 s.prom.length c2) (.slice V s.ab.length c3));have qn:=hn8.cell;have qr:=cO.cell;have zr:=cO.frozen;clear C7 hF8 k8 cO E F Mx hn8;go_wp2;obtain⟨e9,F,E⟩:=HP.aa;refine bodyPost_ret (v:=.agg #[.int .u64 (s.life:Int),.slice Y s.list.length c1,.slice A2 s.prom.length c2,.slice V s.ab.length c3]) Xq rfl ?_;exact⟨_,_,_,rfl,F,E⟩
end
section
variable {S:Nat->Prop} {W W2:World} {H:mf} {own:Nat->Nat} {O:bH} {par ai:List Int} {k:Nat}
theorem axn{X Z g gd B}(h:dm X Z g gd B W) :
 Calls prog 66 #[.pointer (some ⟨g,0,none⟩)] W λe w'=>∃v',e=.returned v'/\aq cW B.aB v' w'/\K W w':=by
 obtain⟨j,p,hb,hg,-⟩:=h
 obtain rfl:=kg hg
 exact (apt hb j.tobD).mono λe w' ⟨v',u,t,k⟩=>⟨v',u,t.aq,k⟩
theorem ayn{X Z g gd B}(h:dm X Z g gd B W) :
 Calls prog 67 #[.pointer (some ⟨g,0,none⟩)] W λe w'=>∃A c,e=.returned (.slice A B.waits.length c)/\K W w':=by
 obtain⟨j,p,hb,hg,-⟩:=h
 obtain rfl:=kg hg
 exact (aox hb j.tobD).mono λe w' ⟨v',u,t,k⟩=>by obtain⟨A,c,rfl⟩:=t.slice;exact⟨A,c,u,k⟩
theorem Ue a b c d W:(Instr.field 46 (.agg #[a,b,c,d]) 2).run prog W=.ok c W:=by kernel_rfl
theorem asr(l:List eF) j(t:j<l.length):((l.take (j+1)).filter (·.asked)).length=((l.take j).filter (·.asked)).length+if l[j].asked then 1 else 0:=by rw[gj t,List.filter_append,cF,List.filter_cons];split <;> simp
theorem bO.prom(h:bO par ai O k) n:(oR O n).prom.length<=6:=by
 unfold oR;split
 ·next hi =>
  cases hu:cX O n with
  | some B=>exact (h.up hu).2.1.inv.prom
  | none => obtain⟨i,rfl,-,d,s,t,j,-,-,hp⟩:=h.down hi hu;simpa [t,Lr j]using hp
 ·simp[dw]
theorem apR(h:bu H own O W S)(y:S 2)(G:∀n,S (2*n+4))(u:bO par ai O k) n :
 Calls prog 24 #[.pointer (some ⟨H.gw,0,none⟩),.int .i64 n] W λe w'=>e=.returned (.int .i64 (IJ O n:Int))/\K W w':=by
 have I:=ae (abw h y G u n)
 have A:=ae λW' (k:K W W')=>OT (h.st k) y G u.fV n
 have L:Hid (IJ O n=(oR O n).prom.length+(match cX O n with|some B=>(B.aB.filter (·.asked)).length+B.waits.length|none=>0)):=ae rfl
 have q:=(h.eW y).blk.cells
 have Q:=h.q y
 have hpr:=u.prom n
 generalize IJ O n=R at *
 generalize oR O n=s at *
 cases hu:cX O n with
 | none =>
  have HR:Hid (R=s.prom.length):=ae (by rw[L.aa,hu];rfl);rw[hu]at A;clear h y G u hu L q Q;go_enter func24,ntmps24;go_wp2_with fail
  refine I.aa.mono ?_;rintro e C⟨vl,vp,va,rfl,E,k1⟩;obtain⟨-,⟨A2,c2,rfl⟩,-⟩:=E.sl;have fp:=Ue;have J:=ae (A.aa C k1);clear I E A;go_wp2_with fail
  apply bF J.aa;rintro w' rfl;exact Dp
 | some B =>
  have HR:Hid (R=s.prom.length+((B.aB.filter (·.asked)).length+B.waits.length)):=ae (by rw[L.aa,hu]);obtain⟨i,rfl,hlt,x,hx1,hx2⟩:=DF hu;obtain⟨gd,g,e1,e2,hL⟩:=h.up (G i) u.fV.ln hu;have V:=(u.up hu).1;have hwl:=V.yB;have gV:=V.tx.zW;have U:=ae λW' (k:K W W')=>hL.st k
  rw[hu]at A;have M:=λW' (k:K W W')=>(Q W' k i).2
  rw[e2]at M;simp only[Option.getD_some]at M;clear h y G u hu L Q hL e1 e2 hx1 hx2 V;go_enter func24,ntmps24;go_wp2_with fail
  refine I.aa.mono ?_;rintro e C⟨vl,vp,va,rfl,E,k1⟩;obtain⟨-,⟨A2,c2,rfl⟩,-⟩:=E.sl;have fp:=Ue;have J:=ae (A.aa C k1);have C3:=ae (axn (U.aa C k1));have q1:=q C k1;have y6:=M C k1;have HK1:=ae k1;clear I E A q M k1;go_wp2_with fail
  apply bF J.aa;rintro w' rfl;go_wp2_with fail
  refine C3.aa.mono ?_;rintro e w3⟨v3,rfl,bE,k3⟩;obtain⟨A3,c3,rfl,Y,-⟩:=bE;have X:=ae (HK1.aa.tr k3);have Jo:=ae Y;clear J C3 q1 y6 k3 Y;go_wp2_with fail
  go_loopw [5,28] (fun b T Wj=>∃j:Nat,j<=B.aB.length/\T=.int .i64 (j:Int)/\b=.int .i64 ((s.prom.length+((B.aB.take j).filter (·.asked)).length:Nat):Int)/\K w3 Wj) (fun _ T _=>B.aB.length-(intOf T).toNat)
  case atStart=>exact⟨0,eV _,rfl,aj,K.rf w3⟩
  case round =>
   obtain⟨j,hj,rfl,rfl,kr⟩:=hrel;by_cases hlt':j<B.aB.length
   ·have aP:(j:Int)<(B.aB.length:Int):=af;obtain⟨Z,off,cs0,rfl,-,hrl,N,d⟩:=ed Jo.aa j hlt' ay;have D:=asr B.aB j hlt';have F:=ae D;obtain⟨vf,ve,rfl,⟨Af,cf,rfl,-⟩,⟨Ae,ce,rfl,-⟩⟩:=hrl wr kr;have IM:((B.aB.take j).filter (·.asked)).length<=1000000:=bn (ll _ _) (by rw[nX];omega);generalize B.aB[j]=t at *;have N:=N wr kr;have d:∀i,i<9->wr.cell? ⟨Z,off+j*9+i,none⟩=(gE t (.slice Af t.e.f.length cf) (.slice Ae t.e.es.length ce))[i]?:=λi hi=>(d wr kr i hi).trans Array.getElem?_toList
    have N:wr.cell? ⟨Z,off+j*9,none⟩=some (.int .i64 t.e.kind):=N;have dB:=ah.new wr 128 (gE t (.slice Af t.e.f.length cf) (.slice Ae t.e.es.length ce));clear hrl dB F;cases ha:t.asked
    ·have F:=ae (show ((B.aB.take (j+1)).filter (·.asked)).length=((B.aB.take j).filter (·.asked)).length by rw[D,ha];rfl);clear D;go_wp2;exact⟨⟨j+1,af,bJ,by rw[F.aa],kr.al _⟩,Ix⟩
    ·have F:=ae (show ((B.aB.take (j+1)).filter (·.asked)).length=((B.aB.take j).filter (·.asked)).length+1 by rw[D,ha];rfl);clear D;go_wp2;exact⟨⟨j+1,af,bJ,by rw[F.aa];go_num,kr.al _⟩,Ix⟩
   ·have aP:¬(j:Int)<(B.aB.length:Int):=af;obtain rfl:j=B.aB.length:=af;rw[lL]at *;have C4:=ae (ayn (U.aa wr (X.aa.tr kr)));have IM:(B.aB.filter (·.asked)).length<=1000000:=bn (ll _ _) gV;have HKr:=ae (X.aa.tr kr);clear U kr;go_wp2_with fail
    refine C4.aa.mono ?_;rintro e w9⟨A9,c9,rfl,k9⟩;have k99:=HKr.aa.tr k9;clear C4 k9;go_wp2;go_ret;refine⟨?_,k99⟩;rw[HR.aa];exact congrArg (λz:Int=>Ending.returned (Value.int .i64 z)) af
end
theorem ayo{X Z g gd B W}(h:dm X Z g gd B W)(E:kN B)(D:B.told.length<=800000) :
 Calls prog 46 #[.pointer (some ⟨g,0,none⟩)] W λe w'=>∃v',e=.returned v'/\dm X Z g gd (gZ B) w'/\ag (λk=>¬Z k) W w'/\Fx X (λW=>aq zY (ye (gZ B)) v' W) w':=by
 obtain⟨j,p,hb,hg,hz⟩:=h
 obtain rfl:=kg hg
 refine (aqP hb j.tobD E D).mono ?_
 rintro e w'⟨v',p',rfl,t,u,C,y,A⟩
 have h6:=dm.n hz hg j.work ⟨p',t,u,C,y⟩
 exact⟨v',rfl,h6.1,h6.2,A.less λ_ h=>.inl (.inl h)⟩
theorem auf{B}(t:bD B):(ye B).length<=17:=by have u:=adF B;have j:=Ut B (oU B);have A:=Hv B.par B.me;have y:=(sD t.tr).2;unfold ye;unfold oU at j⊢;simp only[cF];omega
section
variable {S:Nat->Prop} {W W2:World} {H:mf} {own:Nat->Nat} {O:bH} {par ai:List Int} {k:Nat}
theorem bu.take(h:bu H own O W dJ) a b:∃t,H.vn=.pointer (some ⟨t,0,none⟩)/\Calls prog 56 #[.pointer (some ⟨t,0,none⟩),.int .i64 a,.int .i64 b] W λe w'=>∃v j,e=.returned (.tuple #[v,.int .i64 j]) /\
 ((j != 0)=true/\rF O a b=(O,j)/\dh H own O W w'∨∃m l,j=0/\nu O.dX (a,b)=some (m :: l)/\m.length<=1000000000/\sl m v w'/\bu H own { O with dX:=jK O.dX (a,b) l } w' dJ/\ag (λk=>own k=3) W w'):=by
 obtain⟨t,hv,A⟩:=h.dX (show dJ 3 by unfold dJ;decide)
 refine⟨t,hv,(aqQ A).mono ?_⟩
 rintro e w'⟨v,j,rfl,u,⟨h1,rfl,h2⟩|⟨h1,rfl,h2⟩|⟨m,l,h1,rfl,h2,B,y⟩⟩
 ·exact aiQ
 ·exact aiQ
 ·exact⟨v,_,rfl,.inr ⟨m,l,rfl,h1,B,y.now,h.IU hv h2 u,u⟩⟩
theorem aoo(h:bu H own O W dJ)(hI:bO par ai O k)(hk:k<=40000) a b :
 Calls prog 18 #[.pointer (some ⟨H.gw,0,none⟩),.int .i64 a,.int .i64 b] W λe w'=>e=.returned (.int .i64 (rF O a b).2)/\dh H own (rF O a b).1 W w':=by
 obtain⟨gn,X,hC⟩:=h.take a b
 have D:=ae hC
 have q:=(h.eW p2).blk.cell
 rw[X]at q
 have M:=ae hI
 have HR:Hid (rF O a b=rF O a b):=ae rfl
 generalize U:rF O a b=R at HR⊢
 have HE:=ae U
 clear h hI U HR X hC
 go_enter func18,ntmps18
 go_wp2_with fail
 refine D.aa.mono ?_
 rintro e L⟨v,code,rfl,⟨hne,j,G⟩|⟨m,l,rfl,E,tR,J,t,T⟩⟩
 ·have u:=ae (And.intro j G);clear D j G q;go_wp2;go_ret;obtain⟨j,G⟩:=u.aa;rw[<- HE.aa,j];exact⟨rfl,G⟩
 ·have y:bO par ai { O with dX:=jK O.dX (a,b) l } k:=by have h0:=M.aa.few _ (Xg E);simp only[eQ]at h0;exact M.aa.dX (UU _ _ _) (UW M.aa.few af)
  have j:rF O a b=(match cX { O with dX:=jK O.dX (a,b) l } b with|none=>({ O with dX:=jK O.dX (a,b) l },210)|some B=>(sN { O with dX:=jK O.dX (a,b) l } b (il B a m).1,(il B a m).2)):=by unfold rF;rw[E];rfl
  rw[HE.aa]at j;have HU:=ae (show ag (λk=>2<=own k) W L from T.more λk e=>af);generalize { O with dX:=jK O.dX (a,b) l }=P at *;have q:=(t.eW p2).blk.cell;have C:=(t.q p2 L (K.rf L) b).1;obtain⟨A,c,rfl,-⟩:=id J;cases hu:cX P b with
  | none => rw[t.down p2 pB y.fV.ln hu]at C;simp only[Option.getD_none,Option.isSome_none]at C;rw[hu]at j;have u:=ae (And.intro j (dh.tr HU.aa rfl (λ_ _=>rfl) (t.now (K.rf L))));clear D j J t T y hu E;go_wp2;go_ret;rw[u.aa.1];exact⟨rfl,u.aa.2⟩
  | some B =>
   obtain⟨n,rfl,hlt,x,hx1,hx2⟩:=DF hu;obtain⟨gd,g,Y,N,Z⟩:=t.up (pB n) y.fV.ln hu;obtain⟨hG,Q,-⟩:=y.up hu;have gV:=Q.told;have C3:=ae (axm Z Q.fit af a m _ J tR);rw[N]at C;simp only[Option.getD_some,Option.isSome_some]at C;rw[hu]at j;simp only at j;have V:=ae λS (I:dm _ _ g gd (il B a m).1 S) F=>dh.tr HU.aa rfl (λ_ _=>rfl) (t.akB (by have:=y.fV.ln;omega) Y N I F)
   have HD:=ae j;generalize il B a m=hb at *;clear D j J t T y hu E Z hG Q gV Y N hx1 hx2;go_wp2_with fail
   apply bF C3.aa;rintro S⟨I,F⟩;have u:=ae (V.aa S I F);clear C3 V I F q C;go_wp2;go_ret;rw[HD.aa];exact⟨rfl,u.aa⟩
def DV(O:bH)(n:Int)(l:List (Int×List UInt8)):bH:={ O with dX:=l.foldl (λL m=>yg L (n,m.1) m.2) O.dX }
theorem ass O n l x:DV O n (l++[x])={ DV O n l with dX:=yg (DV O n l).dX (n,x.1) x.2 }:=by unfold DV;rw[List.foldl_append];rfl
theorem apS(h:bu H own O W dJ)(E:bO par ai O k)(hk:k<=40000) n :
 Calls prog 12 #[.pointer (some ⟨H.gw,0,none⟩),.int .i64 n] W λe w'=>e=.returned (.int .i64 (tJ O n).2)/\dh H own (tJ O n).1 W w':=by
 have C1:=ae (Ko h p2 n)
 have HR:Hid (tJ O n=if ku O n then (match cX O n with|none=>(O,(210:Int))|some B=>(DV (sN O n (gZ B)) n (ye (gZ B)),0))else (O,1)):=ae rfl
 have HN:=ae (h.now (K.rf W))
 generalize tJ O n=R at *
 cases C:ku O n
 ·rw[C]at C1 HR;have q:=(h.eW p2).blk.cell;clear h E C;go_enter func12,ntmps12;exact Qx
 rw[C]at C1 HR
 have q:=(h.eW p2).blk.cell
 have G:=(h.q p2 W (K.rf W) n).1
 cases hu:cX O n with
 | none => rw[h.down p2 pB E.fV.ln hu]at G;simp only[Option.getD_none,Option.isSome_none]at G;rw[hu]at HR;clear h E C hu;go_enter func12,ntmps12;exact Qx
 | some B =>
  obtain⟨i,rfl,hlt,x,hx1,hx2⟩:=DF hu;obtain⟨gd,g,e1,Y,hL⟩:=h.up (pB i) E.fV.ln hu;obtain⟨M,S,-⟩:=E.up hu;have gV:=S.told;have C3:=ae (ayo hL S.fit af);have NG:=auf (Km M.tobD);have HS:=ae (aqV (Km M.tobD) (O3 M.tobD S.fit));rw[Y]at G;simp only[Option.getD_some,Option.isSome_some]at G;rw[hu]at HR;have HP:=ae λw2 (qu:dm _ _ g gd (gZ B) w2) u2=>h.put (by have:=E.fV.ln;omega) e1 Y qu u2
  have vW:=ae h.lo;simp only[if_true]at HR;generalize dM:sN O (i:Int) (gZ B)=O1 at *;generalize ye (gZ B)=t at *;generalize gZ B=WB at *;clear h E C hu hL M S gV e1 Y hx1 hx2 dM HN;go_enter func12,ntmps12;go_wp2_with fail
  apply bF C1.aa;rintro w' rfl;go_wp2_with fail
  refine C3.aa.mono ?_;rintro e y⟨v',rfl,Tk,D,U⟩;have J:=HP.aa y Tk D;obtain⟨Ao,co,rfl⟩:=aw U.now;have HX:=ae (show ag (λk=>2<=own k) w' y from ⟨D.os,D.tape,D.output,D.size,λk J h2=>D.block k J λhx=>h2 af⟩);have HOW:=ae (show (∀k,k<w'.heap.size->iR own (2*i+4) w' y k=own k)/\∀k,iR own (2*i+4) w' y k=3->own k=3 from ⟨λk hk=>FC,λk hk=>by
   unfold iR at hk;split at hk
   ·split at hk <;> omega
   ·exact hk⟩)
  have HF:=ae U;have HH1:=ae J;have u10:=ag.rf (λk=>iR own (2*i+4) w' y k=3) y;have akG:=ae u10;generalize iR own (2*i+4) w' y=I at *;clear C1 C3 Tk D U J q G HP u10;go_wp2_with fail
  go_loopw [27] (fun jv Wj=>∃j:Nat,j<=t.length/\jv=.int .i64 j/\Hid (bu H I (DV O1 i (t.take j)) Wj dJ)/\Hid (ag (fun k=>I k=3) y Wj)) (fun jv _=>t.length-(intOf jv).toNat)
  case atStart=>exact⟨0,af,rfl,by simpa [DV]using HH1,akG⟩
  case round =>
   clear HH1 akG;obtain⟨j,hj,rfl,HJ,N⟩:=hrel;by_cases hlt':j<t.length
   ·have aP:(j:Int)<t.length:=af;have F:=HJ.aa;obtain⟨gn,hv,Hg⟩:=F.dX (show dJ 3 by unfold dJ;decide);have lC:=(HF.aa.up N.aa λk e=>by have:=HOW.aa.2 k e;constructor <;> omega).now;obtain⟨A9,c9,e9,akH,-⟩:=lC;injection e9 with e9a e9b e9c;subst e9a e9c;obtain⟨b1,off,cs0,fD,-,hrl,d0,d⟩:=ed akH j hlt' ay;subst fD;have iz:=HS.aa _ (bS hlt');have Gc:t.take (j+1)=t.take j++[t[j]]:=aj;generalize t[j]=x at *;obtain⟨L,bs⟩:=x;obtain⟨u,hcs,X⟩:=hrl wr (K.rf wr);subst hcs;obtain⟨Au,cu,rfl⟩:∃A c,u=.slice A bs.length c:=X.imp λ_ h=>h.imp λ_ h=>h.1
    have HK:=ae Gc;have HV:=ae hv;have q:=(F.eW p2).blk.cells;rw[hv]at q;have dB:=ah.new wr 96 #[.int .i64 L,.slice Au bs.length cu];have kA:=dB.aS;have kB:=λW (k:K (wr.alloc (.cells #[.int .i64 L,.slice Au bs.length cu] 96)) W)=>kA.tr k
    have qb:=dB.cells;have q2:=λW k=>q W (kB W k)
    have Cj:=ae (And.intro F X);have d:∀i,i<2->wr.cell? ⟨b1,off+j*2+i,none⟩=#[.int .i64 L,.slice Au bs.length cu][i]?:=λi C=>(d wr (K.rf wr) i C).trans Array.getElem?_toList
    have d0:wr.cell? ⟨b1,off+j*2,none⟩=some (.int .i64 L):=d0 wr (K.rf wr);have KA:=ae kA;clear Hg akH hrl Gc hv F X HJ q kA dB kB;go_wp2_with fail
    generalize wr.alloc _=w2 at *;have qs:=And.intro q2 qb;refine dD 9 [([],[]),([0],[(31,0)]),([1],[(32,1)]),([2],[(33,2)]),([],[]),([],[]),([5],[(36,5)]),([],[]),([7],[(38,7)]),([3,4,6,8],[(34,3),(35,4),(37,6),(39,8)])] 42 ?_;iterate 9 refine au.i ?_
    intro V W3 kW hA;simp only[aO,aQ,cz,aJ,Nat.reduceAdd]at hA;refine aH.call _ _ rfl (by simp[aE,List.lookup,ba,hA,execOp,aF,go_sem];exact⟨rfl,rfl⟩) ?_;have T:=KA.aa.tr kW;have Q:=Cj.aa.1.st T;obtain⟨gn',hv',tc⟩:=Q.dX (show dJ 3 by unfold dJ;decide);have eg:gn'=gn:=by have:=hv'.symm.trans HV.aa;injection this with this;injection this with this;injection this
    subst eg;refine (aqR tc Q.lo bs _ (nC _ _ _ _ Cj.aa.2 T) iz).mono ?_;rintro e w4⟨code,rfl,Z,ze⟩;refine⟨_,rfl,aH.h ?_⟩;have h4:bu H I (DV O1 i (t.take (j+1))) w4 dJ:=by rw[HK.aa,ass];exact Q.IU hv' ze Z
    have H4:=ae h4;have SL:=ae ((N.aa.tr (ag.aT T _)).tr Z);clear tc ze Z Q h4 hA q2 qb qs Cj N d d0;go_wp2;go_roundw
    case rel=>exact⟨j+1,af,bJ,H4,SL⟩
    case measure=>simp[intOf];omega
   ·have aP:¬(j:Int)<t.length:=af;obtain rfl:j=t.length:=af;go_wp2;go_ret;have F:=HJ.aa;rw[lL]at F;refine⟨fE,?_⟩;rw[HR.aa];exact⟨H,I,F,rfl,HX.aa.gg N.aa λk hk e=>by have:=HOW.aa.2 k e;omega,HOW.aa.1⟩
end
section
open Go Go.RowKit Go.Shelf
theorem an9{α:Type}{F:Fence}{n:Nat}{P:Program}{g:Operand}{A:Array Tmp}{assign body:Code}{Q:Exit->Act->World->Prop}{a:Act}{w:World}(V:F.round=none)(h1:1<=n){gf:Nat}{lb:Array Value}
 (hg:a.eval g=.func (.func gf) #[] lb) (U:F.fn gf) (eg:∀args w,(callFunc gf args).run P w=.ok (.enter gf args) w) {encs:α->Array Value} (hps:∀x,(encs x).size=A.size) (xs:List α) (I:List α->World->Prop)
 (E:∀pre W o,I pre W->w.heap.size+1<W.heap.size->I pre (W.putObj (w.heap.size+1) o)) (X:∀o,I [] ((w.alloc (.deferred (some []))).alloc o))
 (aAy:∀(l:Nat) (J:List α->World->Prop) (W:World),(∀pre W,J pre W->I pre W)->(∀pre x W,J pre W->pre++[x] <+: xs->YieldAt F (n-1-1) P l (encs x) W λe W'=>e=.returned (.bool true)/\J (pre++[x]) W')->J [] W ->
  CallsIn F (n-1) P gf (#[.func (.yield l) #[] #[]]++lb) W λe W'=>(∃v,e=.returned v)/\J xs W')
 (O:α->Act) (axo:∀(l:Nat) (x:α) (W:World) (K:Act->World->Prop),K (O x) W->assign.wpIn (F.inRound l) (n-1-1) P (Exit.then K (λ_ _ _=>False)) { tmps:=(A.zip (encs x)).foldl (λt (p,v)=>t.setIfInBounds p v) a.tmps,defers:=[] } W)
 (Z:∀(l:Nat) (pre:List α) (x:α) (W:World),I pre W->pre++[x] <+: xs->w.heap.size+1<W.heap.size->body.wpIn (F.inRound l) (n-1-1) P (λe _ W'=>e=.normal/\(∀k,k=w.heap.size∨k=w.heap.size+1->W'.heap[k]?=W.heap[k]?)/\I (pre++[x]) W') (O x) W)
 (ay7:∀W,I xs W->W.heap[w.heap.size]?=some (.deferred (some []))->Q .normal { a with defers:={ target:=.collected w.heap.size,args:=#[] } :: a.defers } W):(Code.rangeFunc g A assign body).wpIn F n P Q a w:=by
 refine wpIn_rangeFunc ?_
 intro M hfn
 rw[V]
 obtain⟨j,u⟩:∃j:LoopState->Loop,j=λst=>{ state:=st,pending:=none,fn:=M,tmps:=a.tmps,params:=A,assign,body,defers:=w.heap.size }:=⟨_,rfl⟩
 have N:=X (.loop (j .ready))
 obtain⟨W1,B⟩:∃W1,(w.alloc (.deferred (some []))).alloc (.loop (j .ready))=W1:=⟨_,rfl⟩
 rw[B]at N
 have Tk:W1.heap[w.heap.size+1]?=some (.loop (j .ready)):=by rw[<- B];have:=World.alloc_heap_new (w.alloc (.deferred (some []))) (.loop (j .ready));rwa [World.size_alloc]at this
 have hK1:W1.heap[w.heap.size]?=some (.deferred (some [])):=by rw[<- B];exact (Below.heap_alloc _ _ _ aj).trans (World.alloc_heap_new w _)
 refine⟨w.heap.size+1,[{ target:=.collected w.heap.size,args:=#[] }],W1,{ target:=.fn (.func gf) lb,args:=#[.func (.yield (w.heap.size+1)) #[] #[]] },W1,gf,#[.func (.yield (w.heap.size+1)) #[] #[]]++lb,W1,?_,?_,?_,?_,λ_=>h1,?_⟩
 ·rw[<- B,u];exact run_enterLoop_outer _ _ _ _ _
 ·simp only[resolve,hg];simp[go_sem]
 ·intro f' L;simp[Target.leads]at L;subst L;exact U
 ·simp[invoke,go_sem,eg]
 refine (aAy (w.heap.size+1) (λpre W=>I pre W/\W.heap[w.heap.size+1]?=some (.loop (j .ready))/\W.heap[w.heap.size]?=some (.deferred (some []))) W1 (λ_ _ h=>h.1) ?_ ⟨N,Tk,hK1⟩).mono ?_
 ·rintro pre x W⟨C,y,hk⟩ xa;have D:=(Array.getElem?_eq_some_iff.1 y).1;have R:=run_yield (P:=P) (args:=encs x) y (by rw[u];exact hps x);rw[u]at R;refine⟨M,_,assign,body,R,roundIn_of_wpIn hfn (axo _ x W _ ⟨_,run_beginRound y (by rw[u]),?_⟩)⟩;refine wpIn_mono (Z _ pre x _ (E _ _ _ C D) xa (by simpa [World.putObj]using D)) ?_;rintro e a3 W3⟨rfl,T,hi3⟩;have H:=(T _ (.inr rfl)).trans (World.putObj_heap_same (o:=.loop { j .ready with state:=.busy }) D);have Y:=(T _ (.inl rfl)).trans ((World.putObj_heap_other af).trans hk);have S:=(Array.getElem?_eq_some_iff.1 H).1;have G:=run_endRound (P:=P) none H;rw[u]at G;exact⟨_,_,G,rfl,E _ _ _ hi3 S,by rw[u];exact World.putObj_heap_same S,(World.putObj_heap_other af).trans Y⟩
 ·rintro e W2⟨⟨v,rfl⟩,C,y,hk⟩;exact⟨none,_,by have:=run_endLoop (P:=P) y (by rw[u];simp);rw[u]at this;exact this,ay7 _ (E _ _ _ C (Array.getElem?_eq_some_iff.1 y).1) ((World.putObj_heap_other af).trans hk)⟩
end
section
open Go Go.RowKit Go.Shelf
attribute [local go_sem] Oper.semAt_some
def pG(n:Nat):List Int:=((List.range n).reverse++List.range n).map λ(k:Nat)=>(k:Int)
theorem acX n:(pG n).length=n+n:=by simp[pG]
theorem aq1{n j}(h:j<n):(pG n).take (n-j)=(pG n).take (n-(j+1))++[(j:Int)]:=by have t:n-(j+1)<(pG n).length:=Xr;rw[show n-j=n-(j+1)+1 by omega,gj t];congr 1;simp only[pG,List.getElem_map,List.getElem_append,List.length_reverse,List.length_range,show n-(j+1)<n by omega,dite_true,List.getElem_reverse,List.getElem_range,List.cons.injEq,and_true];omega
theorem aug{n j}(h:j<n):(pG n).take (n+(j+1))=(pG n).take (n+j)++[(j:Int)]:=by have t:n+j<(pG n).length:=Xr;rw[show n+(j+1)=n+j+1 by omega,gj t];congr 1;simp[pG,List.getElem_append]
theorem ast l G gw n(hn:n<=1000)(J:List Int->World->Prop)
 (E:∀pre W,J pre W->W.cell? ⟨G,0,none⟩=some (.pointer (some ⟨gw,0,none⟩))/\∃A c,W.cell? ⟨gw,0,none⟩=some (.slice A n c))
 (F:∀pre x W,J pre W->pre++[x] <+: pG n->YieldAt Fence.wide 4 prog l #[.int .i64 x] W λe W'=>e=.returned (.bool true)/\J (pre++[x]) W') W (h0:J [] W) :
 CallsIn Fence.wide 5 prog 130 #[.func (.yield l) #[] #[],.pointer (some ⟨G,0,none⟩)] W λe W'=>(∃v,e=.returned v)/\J (pG n) W':=by
 obtain⟨D,A,c,B⟩:=E [] W h0
 have R:IntKind.i64.wrap ((n:Int)-1)=(n:Int)-1:=Lf
 refine callsIn_of_wp func130 rfl trivial ?_ rfl
 simp only[ntmps130,List.size_toArray,eQ,List.length_nil,Nat.reduceAdd,Nat.reduceSub,Array.replicate_succ,Array.replicate_zero,List.push_toArray,List.append_toArray,aO,aQ]
 gi_wp2
 gi_loopw [3] (λi wr=>∃j:Nat,i=.int .i64 ((j:Int)-1)/\j<=n/\J ((pG n).take (n-j)) wr) (λi _=>(intOf i+1).toNat)
 case atStart=>exact⟨n,rfl,aC n,Ia⟩
 case round =>
  clear h0 D B
  obtain⟨j,rfl,N,t⟩:=hrel
  cases j with
  | zero =>
   generalize wr=U at *;obtain⟨D,T,c2,B⟩:=E _ _ t;gi_wp2;gi_loopw [4,24] (λ_ i L=>∃j:Nat,i=.int .i64 j/\j<=n/\J ((pG n).take (n+j)) L) (λ_ i _=>n-(intOf i).toNat)
   case atStart=>exact⟨0,rfl,eV n,t⟩
   case round =>
    clear t D B;obtain⟨j,rfl,N,t⟩:=hrel;by_cases Q:j<n
    ·have I:(j:Int)<n:=af;have HS:=ae (aug Q);obtain⟨H,O,assign,body,C,u⟩:=F _ (j:Int) _ t aiR;gi_wp2;refine u.mono ?_;rintro e M⟨rfl,y⟩;rw[<- HS.aa]at y;clear t u C;gi_wp2;refine⟨?_,Ix⟩;iterate 9 apply Exists.intro
     refine⟨⟨j+1,?_,af,y⟩,rfl⟩;go_num
    ·have I:¬(j:Int)<n:=af;obtain rfl:j=n:=af;rw[fM Xr]at t;gi_wp2;go_end0;exact⟨⟨_,rfl⟩,t⟩
  | succ j => have HS:=ae (aq1 (show j<n by omega));have S:IntKind.i64.wrap ((j:Int)-1)=(j:Int)-1:=Lf;rw[show ((j+1:Nat):Int)-1=(j:Int) by omega];obtain⟨H,O,assign,body,C,u⟩:=F _ (j:Int) _ t aiR;gi_wp2;refine u.mono ?_;rintro e M⟨rfl,y⟩;rw[<- HS.aa]at y;clear t u C;gi_wp2;refine⟨?_,by simp[intOf]⟩;exact⟨j,rfl,af,y⟩
end
section
open Go Go.RowKit Go.Shelf
attribute [local go_sem] Oper.semAt_some
theorem apb gw W :
 Calls prog 75 #[.pointer (some ⟨gw,0,none⟩)] W λe w'=>e=.returned (.func (.func 130) #[] #[.pointer (some ⟨W.heap.size,0,none⟩)])/\w'=W.alloc (.cells #[.pointer (some ⟨gw,0,none⟩)] 28):=by
 go_enter func75,ntmps75
 go_wp2
 go_ret
 exact⟨rfl,rfl⟩
theorem axp{L k l l'}(h:nu L k=some l):nu (jK L k l') k=some l':=by
 unfold nu jK at *
 induction L with
 | nil=>simp at h
 | cons p L j =>
  grind
theorem apT{O a b}(h:nY O a b≠0):nY (rF O a b).1 a b+1=nY O a b:=by
 unfold nY rF at *
 cases e:nu O.dX (a,b)with
 | none=>rw[e]at h;simp at h
 | some l=>cases l with
  | nil=>rw[e]at h;simp at h
  | cons m l =>
   have j:=axp (l':=l) e;simp only;split
   ·simp[j]
   ·show ((nu (jK O.dX (a,b) l) (a,b)).getD []).length+1=_;simp[j]
section
variable {W:World} {H:mf} {own:Nat->Nat} {O:bH} {par ai:List Int} {k:Nat}
def xd(O:bH)(pre:List Int):bH:=(pre.map Int.toNat).foldl yh O
theorem auh O pre x:xd O (pre++[x])=yh (xd O pre) x.toNat:=by simp[xd]
theorem av2 O:xd O (pG O.par.length)=wU O:=by unfold xd pG wU;rw[List.map_map];congr 1;rw[show Int.toNat ∘ (λ(k:Nat)=>(k:Int))=id from rfl,List.map_id]
def Ga(H:mf)(own:Nat->Nat)(O:bH)(par ai:List Int)(k:Nat)(j:World)(pre:List Int)(W:World):Prop:=∃u t,bu u t (xd O pre) W dJ/\u.gw=H.gw/\ag (λk=>2<=own k∨k=j.heap.size∨k=j.heap.size+1) j W/\(∀k,k<j.heap.size->t k=own k)/\t j.heap.size=1/\t (j.heap.size+1)=1/\bO par ai (xd O pre) (k+49*pre.length)
theorem axq O n(h:(tJ O n).2≠0):(tJ O n).1=O:=by
 grind [tJ,ku,cX]
theorem Ga.next{j W1 B D t A pre}(J:D.gw=H.gw)(u:ag (λk=>2<=own k∨k=j.heap.size∨k=j.heap.size+1) j W1)(C:∀k,k<j.heap.size->t k=own k)(M:t j.heap.size=1)(h6:t (j.heap.size+1)=1)(R:j.heap.size+1<W1.heap.size)
 (F:dh D t A W1 B) (e:xd O pre=A) (L:bO par ai A (k+49*pre.length)):(∀k,k=j.heap.size∨k=j.heap.size+1->B.heap[k]?=W1.heap[k]?)/\Ga H own O par ai k j pre B:=by
 subst e
 obtain⟨N,G,I,Q,E,y⟩:=F
 refine⟨λk hk=>E.block k af aG,N,G,I,Q.trans J,u.gg E λk hk e=>.inl (C k hk▸e),λk hk=>(y k af).trans (C k hk),(y _ af).trans M,(y _ af).trans h6,L⟩
def pd(T:bH)(j i:Nat):bH:=(List.range i).foldl (λO (t:Nat)=>if t=j then O else FD j t (nY O j t) O) T
theorem aui T j i:pd T j (i+1)=if i=j then pd T j i else FD j i (nY (pd T j i) j i) (pd T j i):=by simp[pd,List.range_succ]
theorem av3{p:Nat->Prop} m(h:p m):∃m,p m/\∀m',p m'->m<=m':=by
 induction m using Nat.strongRecOn with
 | _ m j =>
  grind
noncomputable def Ls (p:Nat->Prop):Nat:=Classical.epsilon λm=>p m/\∀m',p m'->m<=m'
theorem adO{p m}(h:p m):p (Ls p)/\Ls p<=m:=by have:=Classical.epsilon_spec (av3 m h);exact⟨this.1,this.2 m h⟩
structure Gb(H':mf)(bN:Nat->Nat)(W1:World)(par ai:List Int)(T:bH)(j i kk:Nat)(O':bH)(W:World):Prop where
 ov:dh H' bN O' W1 W
 inv:∃m,bO par ai O' m/\m+nY O' j i<=kk+8*i+8
 end_:if i=j then O'=pd T j i else FD j i (nY O' j i) O'=pd T j (i+1)
theorem apc(h:bu H own O W dJ)(hI:bO par ai O k)(hp:par.length<=6)(hk:k+588<=40000) :
 Calls prog 31 #[.pointer (some ⟨H.gw,0,none⟩)] W λe w'=>e=.returned (.tuple #[])/\dh H own (wU O) W w':=by
 refine (callsIn_wide (n:=6)).1 ?_
 refine callsIn_of_wp_marks func31 rfl trivial ?_ rfl
 simp only[ntmps31,List.size_toArray,eQ,List.length_nil,Nat.reduceAdd,Nat.reduceSub,Array.replicate_succ,Array.replicate_zero,List.push_toArray,List.append_toArray,aO,aQ]
 have aN:=(ah.new W 28 #[.pointer (some ⟨H.gw,0,none⟩)])
 have q1:=aN.cell
 gi_wp2_with fail
 refine⟨trivial,(callsIn_wide.2 (apb _ _)).mono ?_⟩
 rintro e D⟨rfl,rfl⟩
 gi_wp2_with fail
 have k2:=K.lq W (.cells #[.pointer (some ⟨H.gw,0,none⟩)] 28) (.cells #[.pointer (some ⟨H.gw,0,none⟩)] 28)
 have hx1:=aN.alloc (.cells #[.pointer (some ⟨H.gw,0,none⟩)] 28)
 have hx2:=ah.new (W.alloc (.cells #[.pointer (some ⟨H.gw,0,none⟩)] 28)) 28 #[.pointer (some ⟨H.gw,0,none⟩)]
 simp only[World.size_alloc]at hx2⊢
 have h2:=h.st k2
 have hlo:∀k,W.heap.size<=k->own k=0:=λk hk=>by have:=h.lo k;omega
 have hz2:((W.alloc (.cells #[.pointer (some ⟨H.gw,0,none⟩)] 28)).alloc (.cells #[.pointer (some ⟨H.gw,0,none⟩)] 28)).heap.size=W.heap.size+2:=aj
 generalize (W.alloc (.cells #[.pointer (some ⟨H.gw,0,none⟩)] 28)).alloc (.cells #[.pointer (some ⟨H.gw,0,none⟩)] 28)=D at *
 have V:=hI.tQ
 have GK:=ae λpre W' (h:Ga H own O par ai k D pre W')=>by obtain⟨B,y,h1,C,u,-⟩:=h;exact hx1.aX u λe=>by have:=hlo W.heap.size (aC _);omega
 have wg:=ae λpre W' (h:Ga H own O par ai k D pre W')=>by obtain⟨B,y,h1,C,u,-⟩:=h;exact hx2.aX u λe=>by have:=hlo (W.heap.size+1) (by omega);omega
 have HPR:=ae λpre W' (h:Ga H own O par ai k D pre W')=>by obtain⟨B,y,h1,C,u,_,_,_,G⟩:=h;obtain⟨A,c,e,-⟩:=h1.fx.now.1;have q:=(h1.eW p2).blk.cell 0;rw[C,e,G.tQ,<- V]at q;exact (show ∃A c,W'.cell? ⟨H.gw,0,none⟩=some (.slice A O.par.length c)from ⟨A,c,q⟩)
 clear q1 aN
 refine an9 rfl af (gf:=130) (lb:=#[.pointer (some ⟨W.heap.size+1,0,none⟩)]) rfl trivial (enters_of func130 ef rfl) (encs:=λx:Int=>#[.int .i64 x]) (λ_=>rfl) (pG O.par.length) (Ga H own O par ai k D) ?put ?start
  (λl J W' hJI hY hJ=>ast l (W.heap.size+1) H.gw O.par.length (by rw[V];omega) J (λpre W' h=>⟨(wg.aa pre W' (hJI pre W' h)).cell 0,HPR.aa pre W' (hJI pre W' h)⟩) hY W' hJ)
  (λx=>{ tmps:=#[.pointer (some ⟨H.gw,0,none⟩),.pointer (some ⟨W.heap.size,0,none⟩),.int .i64 x,undef,.pointer (some ⟨H.gw,0,none⟩),.bool false,.pointer (some ⟨H.gw,0,none⟩),.func (.func 130) #[] #[.pointer (some ⟨W.heap.size+1,0,none⟩)],.int .i64 x,undef,undef,undef,undef,undef,undef,undef,undef,undef,undef,undef,undef,undef,undef,undef,undef,undef,undef,undef,undef,undef,undef,undef,undef,undef,undef,undef,undef,undef,undef],defers:=[] }) ?assign ?body ?done
 case put =>
  rintro pre W' o⟨B,y,h1,C,u,S,Y,h6,G⟩ hlt;have u9:ag (λk=>k=D.heap.size+1) W' (W'.putObj (D.heap.size+1) o):=ag.eM (grownBy_putObj' W' _ o) λg e=>Xn
  exact⟨B,y,h1.to u9 (λk e=>by subst e;rw[h6];exact⟨by decide,by unfold dJ;decide⟩) (λ_ h=>h) (λ_ _=>rfl) (λk hk e=>Xe),C,u.tr (u9.more λk e=>.inr (.inr e)),S,Y,h6,G⟩
 case start => intro o;have k3:=K.lq D (.deferred (some [])) o;have hz:((D.alloc (.deferred (some []))).alloc o).heap.size=D.heap.size+2:=aj;exact⟨H,_,h2.EG k3,rfl,ag.aT k3 _,λk hk=>FC,by unfold iR;rw[if_pos (aC _),if_pos (by omega)],by unfold iR;rw[if_pos (by omega),if_pos (by omega)],hI⟩
 case assign => intro l x W' K hK;gi_wp2;exact hK
 case body =>
  intro l pre x W1 hR xa hlt;dsimp only;obtain⟨j,rfl,hjn⟩:∃j:Nat,x=(j:Int)/\j<O.par.length:=by have:=xa.subset (show x∈pre++[x] by simp);unfold pG at this;obtain⟨j,h1,rfl⟩:=List.mem_map.1 this;exact⟨j,rfl,Bo⟩
  have hpl:pre.length+1<=12:=by have:=xa.length_le;rw[acX,V]at this;simp at this;omega
  have YM:=GK.aa pre W1 hR;have q:=YM.cell;obtain⟨B,y,h1,C,u,S,Y,h6,G⟩:=hR;have F:xd O (pre++[(j:Int)])=yh (xd O pre) j:=auh O pre j;have hI9:=bO.turn G hp af j;have rA:=ae λP' W3 (Q:dh B y P' W1 W3) (e:yh (xd O pre) j=P')=>Ga.next (ai:=ai) (par:=par) (k:=k) C u S Y h6 hlt Q (F.trans e) axr
  generalize xd O pre=P at *;have C1:=ae (apS h1 G af j);rw[C]at C1;have hIT:=G.tick j;have HTN:=ae (axq P j);have Tm:Hid (yh P j=if (tJ P j).2=0 then pd (tJ P j).1 j O.par.length else P):=ae (by unfold yh pd;rw[G.tQ,V]);gi_wp2_with fail
  refine⟨trivial,((callsIn_wide.2 C1.aa).inRound l).mono ?_⟩;rintro e W3⟨rfl,Q⟩;generalize tJ P j=T at *;obtain⟨T,code⟩:=T;by_cases hc:code=0
  ·subst hc;have HT:Hid (yh P j=pd T j O.par.length):=ae (by rw[Tm.aa];exact if_pos rfl);have HN0:=ae (show dh B y T W1 W3 from Q);have HI0:=ae (show bO par ai T (k+49*pre.length+1)from hIT);have HQ:=ae λt U m (Q:dh B y t W1 U) (hI:bO par ai t m)=>show (∀i,U.cell? ⟨W.heap.size,i,none⟩=#[Value.pointer (some ⟨H.gw,0,none⟩)][i]?)/\(∃A c,U.cell? ⟨H.gw,0,none⟩=some (.slice A O.par.length c))/\∃Z N gn,bu Z N t U dJ/\Z.gw=H.gw/\ag (λk=>2<=y k) W1 U/\(∀k,k<W1.heap.size->N k=y k)/\U.cell? ⟨H.gw,2,none⟩=some (.pointer (some ⟨gn,0,none⟩))/\sy (λk=>N k≠0) (λk=>N k=3) gn t.dX U from by obtain⟨Z,N,I,g2,X,g4⟩:=Q;obtain⟨A,c,e,-⟩:=I.fx.now.1;obtain⟨gn,hv,Hg⟩:=I.dX (show dJ 3 by unfold dJ;decide);have q0:=(I.eW p2).blk.cell 0;have q2:=(I.eW p2).blk.cell 2;rw[g2,C,e,hI.tQ,<- V]at q0;rw[g2,C,hv]at q2;exact⟨(YM.aX X λe=>by have:=hlo W.heap.size (aC _);have:=S W.heap.size (by omega);omega).cell,⟨A,c,q0⟩,Z,N,gn,I,g2.trans C,X,g4,q2,Hg⟩
   obtain⟨q3,⟨A3,c3,qp3⟩,-⟩:=HQ.aa _ _ _ HN0.aa HI0.aa;generalize hkk:k+49*pre.length+1=E at *;have HKK:Hid (E<=39952):=ae af;have HH3:=ae C;have HPL:Hid (O.par.length<=6):=ae (by rw[V];exact hp);clear Q HTN Tm C1 hIT q h1 G u F hI9 h2 hx1 hx2 hI h V hkk YM xa hpl hlt C S Y h6;gi_wp2_with fail
   gi_loopw [3,18] (λ_ iv Wi=>∃i:Nat,i<=O.par.length/\iv=.int .i64 (i:Int)/\Hid (dh B y (pd T j i) W1 Wi)/\Hid (bO par ai (pd T j i) (E+8*i))) (λ_ iv _=>O.par.length-(intOf iv).toNat)
   case atStart=>exact⟨0,eV _,rfl,HN0,HI0⟩
   case round =>
    clear HN0 HI0 q3 qp3;obtain⟨i,hi,rfl,EC,HI1⟩:=hrel;generalize wr=w5 at *;by_cases hlt:i<O.par.length
    ·have yM:(i:Int)<(O.par.length:Int):=af;gi_wp2_with fail
     have Nh:=ae (aui T j i);gi_loopw [] (λWi=>∃t,Hid (Gb B y W1 par ai T j i E t Wi)) (λWi=>Ls λm=>∃t,Gb B y W1 par ai T j i E t Wi/\nY t j i=m)
     case atStart =>
      refine⟨pd T j i,ae ⟨EC.aa,⟨_,HI1.aa,by have:=HI1.aa.long j i;omega⟩,?_⟩⟩;split
      ·rfl
      ·next h9=>rw[Nh.aa,if_neg h9]
     case round =>
      clear EC HI1;obtain⟨O0,js⟩:=hrel;obtain⟨t,M,hm⟩:=(adO (p:=λm=>∃t,Gb B y W1 par ai T j i E t wr/\nY t j i=m) ⟨O0,js.aa,rfl⟩).1;have HO:=ae M;have HM:=ae hm;obtain⟨m,N0,hmm⟩:=M.inv;obtain⟨q3,⟨A4,c4,qp4⟩,Z,N,gn,I,g2,X,g4,qn,Hg⟩:=HQ.aa _ _ _ M.ov N0;have hb:=HPL.aa;by_cases hij:i=j
      ·subst hij;have R:=M.end_;rw[if_pos rfl]at R;have HF:=ae (show dh B y (pd T i (i+1)) W1 wr by rw[Nh.aa,if_pos rfl,<- R];exact M.ov);have HI2:=ae (show bO par ai (pd T i (i+1)) (E+8*(i+1)) by rw[Nh.aa,if_pos rfl,<- R];exact N0.mono af);clear M hm N0 hmm I X Hg R;gi_wp2;refine⟨trivial,?_⟩;gi_wp2;exact⟨⟨i+1,hjn,bJ,HF,HI2⟩,Ix⟩
      ·have aEA:((i:Int) != (j:Int))=true:=aY;have C4:=ae (aqS (a:=(j:Int)) (b:=(i:Int)) Hg);have R:=M.end_;rw[if_neg hij]at R;have HHE:=ae R;have S6:Hid (((nu t.dX ((j:Int),(i:Int))).getD []).length=nY t j i):=ae rfl;have C5:=ae (aoo I N0 aiS (j:Int) (i:Int));rw[g2]at C5;rw[S6.aa]at C4;obtain⟨L,hL⟩:∃L,L=nY t j i:=⟨_,rfl⟩;rw[<- hL]at C4;have HL:=ae hL;have oC:=(I.eW p2).blk;have HTR:=ae λO9 W9 (h9:dh Z N O9 wr W9)=>show dh B y O9 W1 W9 from dh.tr X (g2.trans HH3.aa.symm) g4 h9
       clear hm N0 hmm I X g4 Hg R hL M;gi_wp2_with fail
       refine⟨trivial,((callsIn_wide.2 C4.aa).inRound l).mono ?_⟩;rintro e w'⟨rfl,rfl⟩;cases L with
       | zero => have F:=HHE.aa;rw[<- HL.aa]at F;have HF:=ae (show dh B y (pd T j (i+1)) W1 w' from (show t=pd T j (i+1)from F)▸HO.aa.ov);have HI2:=ae (show bO par ai (pd T j (i+1)) (E+8*(i+1))from (show t=pd T j (i+1)from F)▸HO.aa.inv.elim λm h=>h.1.mono af);clear F;gi_wp2;exact⟨⟨i+1,af,bJ,HF,HI2⟩,Ix⟩
       | succ L =>
        have hpos:(0:Int)<((L+1:Nat):Int):=af;gi_wp2_with fail
        refine⟨trivial,((callsIn_wide.2 C5.aa).inRound l).mono ?_⟩;rintro e w6⟨rfl,hN6⟩;have SQ:=apT (O:=t) (a:=(j:Int)) (b:=(i:Int)) (by rw[<- HL.aa];omega);have akI:nY (rF t (j:Int) (i:Int)).1 j i=L:=by have:=HL.aa;omega
        have hR6:Gb B y W1 par ai T j i E (rF t (j:Int) (i:Int)).1 w6:=by obtain⟨m,jL,hm2⟩:=HO.aa.inv;refine⟨HTR.aa _ _ hN6,⟨m+1,jL.aiD aiS j i,af⟩,?_⟩;have F:=HHE.aa;rw[<- HL.aa]at F;rw[if_neg hij,akI];exact F
        have HR6:=ae hR6;have JT:Hid ((Ls λm=>∃t,Gb B y W1 par ai T j i E t w6/\nY t j i=m)<Ls λm=>∃t,Gb B y W1 par ai T j i E t w'/\nY t j i=m):=ae (by
         rw[<- HM.aa];have:=(adO (p:=λm=>∃t,Gb B y W1 par ai T j i E t w6/\nY t (j:Int) (i:Int)=m) ⟨_,hR6,rfl⟩).2;omega)
        clear hN6 SQ akI hR6 C4 C5 HTR oC;gi_wp2;exact⟨⟨_,HR6⟩,JT.aa⟩
    ·have yM:¬(i:Int)<(O.par.length:Int):=af;obtain rfl:i=O.par.length:=af;have HF:=ae (rA.aa _ _ EC.aa HT.aa);exact aiT
  ·have hne:(code != 0)=true:=Il;have HF:=ae (rA.aa T W3 Q (by rw[Tm.aa,if_neg hc];exact (HTN.aa hc).symm));clear Q rA HTN Tm C1;exact aiT
 case done =>
  rintro W'⟨B,y,h1,C,u,S,Y,h6,G⟩ hK;rw[av2]at h1;have u9:ag (λk=>k=D.heap.size) W' (W'.putObj D.heap.size (.deferred none)):=ag.eM (grownBy_putObj' W' _ _) λg e=>Xn
  have HF:=ae (show dh H own (wU O) W (W'.putObj D.heap.size (.deferred none))from
   ⟨B,y,h1.to u9 (λk e=>by subst e;rw[Y];exact⟨by decide,by unfold dJ;decide⟩) (λ_ h=>h) (λ_ _=>rfl) (λk hk e=>Xe),C,
    ((ag.aT k2 _).gg u λk hk e=>af).gg u9 λk hk e=>af,λk hk=>S k af⟩)
  gi_wp2;refine⟨aj,.inl ⟨_,_,rfl,run_takeDeferred hK,?_⟩⟩;exact⟨_,results_none rfl _ _ _,rfl,HF.aa⟩
end
end
section
variable {W W2:World} {H:mf} {own:Nat->Nat} {O:bH}
theorem bu.aAz{α D}{args:Value->Array Value}{ret:α×Int->Value}(h:bu H own O W dJ)(G:nc O) c a z f
 (E:∀m B,cX O m=some B->∀X Z g gd j,K W j->dm X Z g gd B j->Calls prog D (args (.pointer (some ⟨g,0,none⟩))) j λe w'=>e=.returned (ret (f B).2)/\dm X Z g gd (f B).1 w'/\ag (λk=>¬Z k) j w') :
 (∃d:Int,(d != 0)=true/\zZ H O c a=(.pointer none,d)/\wH O c a z f=(O,z,d)) ∨
 ∃g t r,zZ H O c a=(.pointer (some ⟨g,0,none⟩),0)/\wH O c a z f=(t,r)/\∀j,K W j->Calls prog D (args (.pointer (some ⟨g,0,none⟩))) j λe w'=>e=.returned (ret r)/\dh H own t W w':=by
 unfold zZ wH
 rcases h.via G c z f E with ⟨d,y,u,A,C⟩|⟨g,t,r,u,A,C,F⟩
 ·rw[C,u,A];refine .inl ⟨d,y,?_,rfl⟩;rw[if_neg λe=>by have:=e.1;simp at this y;exact y this]
 ·rw[C,u,A];by_cases e:a.1=mU O c
  ·exact .inr ⟨g,t,r,tB,tB,F⟩
  ·exact .inl ⟨1,rfl,tB,tB⟩
theorem abj(h:bu H own O W dJ)(S:nc O) c a f(C:Nat) cs(hf:∀args W,(callFunc C args).run prog W=.ok (.enter C args) W)
 (G:∀m B,cX O m=some B->∀X Z g gd A,K W A->dm X Z g gd B A->Calls prog C (#[.pointer (some ⟨g,0,none⟩),bU a]++cs) A λe w'=>e=.returned (.int .i64 (f B).2.2)/\dm X Z g gd (f B).1 w'/\ag (λk=>¬Z k) A w') :
 Calls prog 54 #[.pointer (some ⟨H.gw,0,none⟩),.int .i64 c,bU a,.func (.func C) #[] cs] W λe w'=>e=.returned (.int .i64 (wH O c a () f).2.2)/\dh H own (wH O c a () f).1 W w':=by
 have D:=ah.new W 26 #[.int .i64 a.1,.int .u64 (a.2.1:Int),.int .u64 (a.2.2:Int)]
 have F:=D.aS
 have u:=ae (abh (h.st F) p2 pB S c a)
 have U:=h.aAz (ret:=λr=>.int .i64 r.2) (args:=λv=>#[v,bU a]++cs) S c a () f G
 generalize wH O c a () f=R at *
 have Q:=ae λt (j:K (W.alloc (.cells #[.int .i64 a.1,.int .u64 (a.2.1:Int),.int .u64 (a.2.2:Int)] 26)) t)=>(D.av j).cell
 have I:=ae λt (j:K W t)=>h.now j
 rcases U with ⟨d,Y,y,rfl⟩|⟨g,V,⟨⟨⟩,ec⟩,y,rfl,J⟩
 ·rw[y]at u;clear h y D G;go_enter func54,ntmps54;go_wp2_with fail
  apply oX u.aa F;intro t j E;have HF:=ae (I.aa t E);clear u I j;exact Qy
 ·have L:=ae J;rw[y]at u;clear h y D G J;go_enter func54,ntmps54;go_wp2_with fail
  apply oX u.aa F;intro t j E;have M:=ae (L.aa t E);have T:=Q.aa t j;clear u L j I Q;go_wp2_with fail
  apply bF M.aa;intro w3 N;have HF:=ae N;clear M N T;exact Qy
theorem aof{X Z g gd B}(h:dm X Z g gd B W) a(H:eu a) j u F(hb:ah W F 51 #[u])(C:iU j u W)(G:j.length<=1000000)(J:∀x∈j,mX x) :
 Calls prog 83 #[.pointer (some ⟨g,0,none⟩),bU a,.pointer (some ⟨F,0,none⟩)] W λe w'=>e=.returned (.int .i64 (fo B (iY B.aB a j)).2)/\dm X Z g gd (fo B (iY B.aB a j)).1 w'/\ag (λk=>¬Z k) W w':=by
 have y:=ah.new W 26 #[.int .i64 a.1,.int .u64 (a.2.1:Int),.int .u64 (a.2.2:Int)]
 have t:=y.aS
 have A:=ae (avU (h.st t) a H j u (pE j u _ _ C t) G J)
 have q:=y.cell
 have L:=(hb.av t).cell
 have M:=ae t
 generalize fo B (iY B.aB a j)=R at *
 clear h y hb C t
 go_enter func83,ntmps83
 go_wp2_with fail
 apply bF A.aa
 rintro N⟨E,D⟩
 have I:=ae (And.intro E ((ag.aT M.aa _).tr D))
 clear A E D q L
 go_wp2
 go_ret
 exact⟨rfl,I.aa⟩
theorem aop(h:bu H own O W dJ)(S:nc O) c a(J:eu a) j u(C:iU j u W)(M:j.length<=1000000)(N:∀x∈j,mX x) :
 Calls prog 37 #[.pointer (some ⟨H.gw,0,none⟩),.int .i64 c,bU a,u] W λe w'=>e=.returned (.int .i64 (pM O c a λl=>iY l a j).2.2)/\dh H own (pM O c a λl=>iY l a j).1 W w':=by
 obtain⟨y,A,rfl⟩:=xR C
 have G:=(ah.new W 26 #[.int .i64 a.1,.int .u64 (a.2.1:Int),.int .u64 (a.2.2:Int)]).alloc (.cells #[.slice y j.length A] 51)
 have I:=ah.new (W.alloc (.cells #[.int .i64 a.1,.int .u64 (a.2.1:Int),.int .u64 (a.2.2:Int)] 26)) 51 #[.slice y j.length A]
 have t:=K.lq W (.cells #[.int .i64 a.1,.int .u64 (a.2.1:Int),.int .u64 (a.2.2:Int)] 26) (.cells #[.slice y j.length A] 51)
 have D:=ae (abj (h.st t) S c a (λB=>((fo B (iY B.aB a j)).1,(),(fo B (iY B.aB a j)).2)) 83 #[.pointer (some ⟨W.heap.size+1,0,none⟩)] (λ_ _=>rfl) λm B T X Z g gd U E L=>aof L a J j _ _ (by simpa using I.av E) (pE j _ _ _ C (t.tr E)) M N)
 have HR:Hid (pM O c a (λl=>iY l a j)=wH O c a () λB=>((fo B (iY B.aB a j)).1,(),(fo B (iY B.aB a j)).2)):=ae rfl
 generalize pM O c a (λl=>iY l a j)=R at *
 have q:=G.cell
 have Q:=ae t
 clear h G I C t
 go_enter func37,ntmps37
 go_wp2_with fail
 apply bF D.aa
 intro V F
 have HF:=ae (dh.k Q.aa F)
 clear D F q
 go_wp2
 go_ret
 exact⟨fE,FA⟩
theorem aoH(h:bu H own O W dJ)(D:nc O) c a(A:eu a) :
 Calls prog 17 #[.pointer (some ⟨H.gw,0,none⟩),.int .i64 c,bU a] W λe w'=>e=.returned (.int .i64 (pM O c a λl=>jG l a).2.2)/\dh H own (pM O c a λl=>jG l a).1 W w':=by
 have t:=ah.new W 26 #[.int .i64 a.1,.int .u64 (a.2.1:Int),.int .u64 (a.2.2:Int)]
 have j:=t.aS
 have u:=ae (abj (h.st j) D c a (λB=>((fo B (jG B.aB a)).1,(),(fo B (jG B.aB a)).2)) 55 #[] (λ_ _=>rfl) λm B I X Z g gd G F C=>axk C a A)
 have HR:Hid (pM O c a (λl=>jG l a)=wH O c a () λB=>((fo B (jG B.aB a)).1,(),(fo B (jG B.aB a)).2)):=ae rfl
 generalize pM O c a (λl=>jG l a)=R at *
 have q:=t.cell
 have E:=ae j
 clear h t j
 go_enter func17,ntmps17
 go_wp2_with fail
 apply bF u.aa
 intro J y
 have HF:=ae (dh.k E.aa y)
 clear u y q
 go_wp2
 go_ret
 exact⟨fE,FA⟩
theorem aoI(h:bu H own O W dJ)(Q:nc O) c a :
 Calls prog 16 #[.pointer (some ⟨H.gw,0,none⟩),.int .i64 c,bU a] W λe w'=>e=.returned (.tuple #[.int .i64 (Dx O c a).1,.int .i64 (Dx O c a).2])/\K W w':=by
 have D:=ah.new W 26 #[.int .i64 a.1,.int .u64 (a.2.1:Int),.int .u64 (a.2.2:Int)]
 have F:=D.aS
 have u:=ae (abh (h.st F) p2 pB Q c a)
 have L:Hid (Dx O c a=(wH O c a (0:Int) λB=>(B,Fy B a,0)).2):=ae rfl
 generalize Dx O c a=R at *
 have HV:(∃d:Int,(d != 0)=true/\zZ H O c a=(.pointer none,d)/\R=(0,d))∨∃g B,zZ H O c a=(.pointer (some ⟨g,0,none⟩),0)/\R=(Fy B a,0)/\∀C,K W C->∃X Z gd,dm X Z g gd B C:=by
  rw[L.aa];unfold zZ wH;rcases h.YH Q c with ⟨d,E,t,Y,hu⟩|⟨n,B,gd,g,h1,h2,h3,U,h5,h6,h7,h8,h9⟩
  ·rw[hu,t,Y];exact .inl ⟨d,E,by rw[if_neg λe=>by have:=e.1;simp at this E;exact E this],rfl⟩
  ·rw[h7,h6,U,h5,h9];by_cases e:a.1=(n:Int)
   ·exact .inr ⟨g,B,tB,tB,λC j=>⟨_,_,gd,h8 C j⟩⟩
   ·exact .inl ⟨1,rfl,tB,tB⟩
 clear L
 rcases HV with ⟨d,E,t,rfl⟩|⟨g,B,t,rfl,G⟩
 ·rw[t]at u;clear h t D;go_enter func16,ntmps16;go_wp2_with fail
  apply oX u.aa F;intro y j A;clear u j;go_wp2;go_ret2;exact⟨rfl,A⟩
 ·rw[t]at u;have M:=ae G;have N:=ae λy (j:K (W.alloc (.cells #[.int .i64 a.1,.int .u64 (a.2.1:Int),.int .u64 (a.2.2:Int)] 26)) y)=>(D.av j).cell
  clear h t D G;go_enter func16,ntmps16;go_wp2_with fail
  apply oX u.aa F;intro y j A;obtain⟨X,Z,gd,I⟩:=M.aa y A;have J:=ae (axl I a);have S:=N.aa y j;clear u j N M I;go_wp2_with fail
  apply oX J.aa A;intro w3 T V;clear J T S;go_wp2;go_ret2;exact⟨rfl,V⟩
end
